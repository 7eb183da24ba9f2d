/- Part of the proof of SchemeComputes: layer. -/
import Derived.Test.YtpgdkkomegalnaaGreatDoorCL8
set_option linter.all false
namespace Go.ld
open Go Go.fF
def CN(P:Program)(t:TypeId)(s x:AV)(d:Nat)(K:Fr->dZ->Prop)(fr:Fr)(H:dZ):Prop:=
 match oM P t,s,x with
 |some (_,sz),.slice tag l,.slice _ m=>
  lp sz l=true/\lp sz m=true/\l.length+m.length<=kG/\(if o6 fr tag l then K (grown fr d tag l m) H else m=[]/\K (fr.put (some d) (.slice .gK l)) H)
 |_,_,_=>False
def Dq{P:Program}{T:eO}{x y:Operand}{t d:Nat}{K:Fr->dZ->Prop}{fr:Fr}{H:dZ}:nj P T {callee:=.builtin .append,args:=#[x,y],argTypes:=#[t,t]} (some d) K fr H=CN P t (ev T fr x) (ev T fr y) d K fr H:=by
 unfold nj CN;simp only;cases oM P t with
 |none=>rfl|some p=>grind[ev]
def V2(P:Program)(t:TypeId)(s x:AV)(d:Nat)(K:Fr->dZ->Prop)(fr:Fr)(H:dZ):Prop:=
 match oM P t,x with
 |some (e,sz),.slice _ m=>
  lp sz m=true/\(kj P e).isSome=true/\0<m.length/\match s with
  |.slice .full l=>lp sz l=true/\l.length+m.length<=kG/\∀cap,l.length+m.length<=cap->K (zh fr d (l.flatMap AV.cells++m.flatMap AV.cells++zd ((cap-(l.length+m.length))*sz)) (l.length+m.length) cap) H|.xX b g len cap=>g=fr.gen b/\len+m.length<=kG/\match fr.box b with
   |some cs=>cs.length=cap*sz/\(len+m.length<=cap->K {fr with env:=gL fr.env d (.xX b g (len+m.length) cap),box:=gL fr.box b (some (setCells cs (len*sz) (m.flatMap AV.cells)))} H)/\(∀a,cap<len+m.length->len+m.length<=a->K (zh fr d (cs.take (len*sz)++m.flatMap AV.cells++zd ((a-(len+m.length))*sz)) (len+m.length) a) H)|none=>False
  |_=>False
 |_,_=>False
def Q7{P:Program}{T:eO}{x y:Operand}{t d:Nat}{K:Fr->dZ->Prop}{fr:Fr}{H:dZ}:EK P T {callee:=.builtin .append,args:=#[x,y],argTypes:=#[t,t]} (some d) K fr H=V2 P t (ev T fr x) (ev T fr y) d K fr H:=by
 unfold EK V2;simp only;cases oM P t with
 |none=>rfl|some p=>grind[ev]
def abm(P:Program)(t:TypeId)(s x:AV)(d:Nat)(K:Fr->dZ->Prop)(fr:Fr)(H:dZ):Prop:=
 match oM P t,x with
 |some (e,sz),.slice _ m=>
  lp sz m=true/\(kj P e).isSome=true/\0<m.length/\match s with
  |.slice .full l=>lp sz l=true/\l.length+m.length<=kG/\∀cap,l.length+m.length<=cap->K (fr.put (some d) (.z' H.length 0 (l.length+m.length) cap)) (H++[l.flatMap AV.cells++m.flatMap AV.cells++zd ((cap-(l.length+m.length))*sz)])|.NX=>m.length<=kG/\∀cap,m.length<=cap->K (fr.put (some d) (.z' H.length 0 m.length cap)) (H++[m.flatMap AV.cells++zd ((cap-m.length)*sz)])|.z' o off len cap=>off=0/\len+m.length<=kG/\match H[o]?with
   |some cs=>vu cs=true/\cs.length=cap*sz/\(len+m.length<=cap->K (fr.put (some d) (.z' o 0 (len+m.length) cap)) (H.set o (setCells cs (len*sz) (m.flatMap AV.cells))))/\(∀a,cap<len+m.length->len+m.length<=a->K (fr.put (some d) (.z' H.length 0 (len+m.length) a)) (H++[cs.take (len*sz)++m.flatMap AV.cells++zd ((a-(len+m.length))*sz)]))|none=>False
  |_=>False
 |_,_=>False
def DU{P:Program}{T:eO}{x y:Operand}{t d:Nat}{K:Fr->dZ->Prop}{fr:Fr}{H:dZ}:pd P T {callee:=.builtin .append,args:=#[x,y],argTypes:=#[t,t]} (some d) K fr H=abm P t (ev T fr x) (ev T fr y) d K fr H:=by
 unfold pd abm;simp only;cases oM P t with
 |none=>rfl|some p=>grind[ev]
def tn(P:Program)(t:TypeId)(s x:AV)(d:Nat)(K:Fr->dZ->Prop)(fr:Fr)(H:dZ):Prop:=(CN P t s x d K fr H\/V2 P t s x d K fr H)\/abm P t s x d K fr H
def MN{P:Program}{T:eO}{x y:Operand}{t d:Nat}{K:Fr->dZ->Prop}{fr:Fr}{H:dZ}:E4 P T {callee:=.builtin .append,args:=#[x,y],argTypes:=#[t,t]} (some d) K fr H=False:=by
 refine propext ⟨λh=>?_,False.elim⟩;unfold E4 at h;simp only at h
 split at h
 ·rename_i a b _ _;obtain⟨_,_,hu,_⟩:=nq a
  grind
 ·exact h
def hX(qs:Nat->Option Nat)(fo:Nat->Nat)(D:List Nat)(tag:Tag)(n:Nat):Prop:=
 tag=.full\/∃k g,k∈D/\tag=.loc k g/\g=fo k/\qs k=some n
def hX.full{qs:Nat->Option Nat}{fo:Nat->Nat}{D:List Nat}{n:Nat}:hX qs fo D .full n:=.inl rfl
theorem hX.new{qs:Nat->Option Nat}{fo:Nat->Nat}{D:List Nat}{n d:Nat}(h:d∈D):hX (gL qs d (some n)) (gL fo d (fo d+1)) D (.loc d (fo d+1)) n:=
 .inr ⟨d,_,h,rfl,by simp[gL],by simp[gL]⟩
theorem hX.mono{qs:Nat->Option Nat}{fo:Nat->Nat}{D D':List Nat}{tag:Tag}{n:Nat}(h:hX qs fo D tag n)(a:∀k,k∈D->k∈D'):hX qs fo D' tag n:=by
 rcases h with h|⟨k,g,b,c⟩
 ·exact .inl h
 ·exact .inr ⟨k,g,a k b,c⟩
def hX.other{qs:Nat->Option Nat}{fo:Nat->Nat}{D D':List Nat}{tag a:Tag}{n n' d:Nat}{x:Option Nat}{y:Nat}(h:hX qs fo D tag n)(j:hX qs fo D' a n')
  (l:∀k,k∈D->k∉D') (o:d∉D):hX (gL (vT a qs) d x) (gL fo d y) D tag n:=by
 rcases h with h|⟨k,g,b,q,r,i⟩
 ·exact .inl h
 ·refine .inr ⟨k,g,b,q,?_,?_⟩
  ·grind[gL]
  ·have c:k≠d:=by rintro rfl;exact o b
   simp only[gL,c];rcases j with rfl|⟨k',s,f,rfl,_,_⟩
   ·exact i
   ·have:k≠k':=by rintro rfl;exact l k b f
    simp[vT,gL,this,i]
def hX.can{fr:Fr}{D:List Nat}{tag:Tag}{l:List AV}{n:Nat}(h:hX fr.qs fr.fo D tag n)(hn:n=l.length):o6 fr tag l=true:=by
 rcases h with rfl|⟨k,g,_,rfl,a,b⟩
 all_goals grind[o6]
def CN.own{P:Program}{t e sz d:Nat}{s x:AV}{K:Fr->dZ->Prop}{fr:Fr}{H:dZ}{α:Type}{f:α->AV}(l m:List α){D:List Nat}{tag b:Tag}
  (h:hX fr.qs fr.fo D tag l.length) (i:oM P t=some (e,sz)) (j:∀x,(f x).cells.length=sz) (hlen:fN l m=true) (hs:s=.slice tag (l.map f)) (k:x=.slice b (m.map f))
  (o:K {fr with env:=gL fr.env d (.slice (.loc d (fr.fo d+1)) ((fU l m).map f)),qs:=gL (vT tag fr.qs) d (some (fU l m).length),fo:=gL fr.fo d (fr.fo d+1)} H):CN P t s x d K fr H:=by
 subst hs;subst k;have n:=Qg hlen
 have c:∀l:List α,lp sz (l.map f)=true:=λl=>by cases l with|nil=>rfl|cons a l=>simp[lp,j]
 unfold CN;rw[i];refine⟨c l,c m,by simpa[kG,yU] using n,?_⟩;rw[dR (h.can aaA)]
 grind[fU,grown]
def tn.own{P:Program}{t e sz d:Nat}{s x:AV}{K:Fr->dZ->Prop}{fr:Fr}{H:dZ}{α:Type}{f:α->AV}(l m:List α){D:List Nat}{tag a:Tag}
  (h:hX fr.qs fr.fo D tag l.length) (b:oM P t=some (e,sz)) (c:∀x,(f x).cells.length=sz) (hlen:fN l m=true) (hs:s=.slice tag (l.map f)) (i:x=.slice a (m.map f))
  (j:K {fr with env:=gL fr.env d (.slice (.loc d (fr.fo d+1)) ((fU l m).map f)),qs:=gL (vT tag fr.qs) d (some (fU l m).length),fo:=gL fr.fo d (fr.fo d+1)} H):tn P t s x d K fr H:=
 .inl (.inl (CN.own l m h b c hlen hs i j))
def lP(P:Program)(T:eO)(E:List Nat)(ops:Array Oper)(a:AV)(as:List AV)(d:Option Nat)(rest:List Oper)(K:Fr->dZ->Prop)(fr:Fr)(H:dZ):Prop:=
 o7 P T a as H λr H'=>iQ P T E ops rest K (fr.put d r) H'
theorem abd{P:Program}{T:eO}{q:Qt}{soft:Bool}{a:AV}{as:List AV}{d:Option Nat}{K:Fr->dZ->Prop}{fr:Fr}{H H':dZ}{r:AV}(h:uV P T a as H r H')(b:soft=true->QK q H H')(c:K (fr.put d r) H'):afs P T q soft a as d K fr H:=
 ⟨_,h,⟨r,H',rfl,rfl⟩,λj k ⟨f,i⟩=>by subst f;subst i;exact⟨b,c⟩⟩
section
variable{P:Program} {T:eO} {E:List Nat} {ops:Array Oper} {q:Qt} {rest:List Oper} {K:Fr->dZ->Prop} {fr:Fr} {H H':dZ} {d:Option Nat} {ty:TypeId} {pos:String} {after:Array Edge}
def lP.fn{g:FuncId}{as:List AV}{r:AV}(h:eP P T g as H r H')(a:iQ P T E ops rest K (fr.put d r) H'):lP P T E ops (.func (.func g) [] []) as d rest K fr H:=by
 unfold lP o7;simp only[AE];exact h.post a
def lP.Hc{g:FuncId}{b c as a:List AV}{r:AV}(f:b++as++c=a)(h:eP P T g a H r H')(i:iQ P T E ops rest K (fr.put d r) H'):lP P T E ops (.func (.func g) b c) as d rest K fr H:=by
 subst f;exact h.post i
@[simp] theorem ahk:iQ P T E ops [] K fr H=K fr H:=rfl
@[simp] theorem ag5{x:Operand}:iQ P T E ops ({dst:=d,op:=.move x,type:=ty,pos:=pos,after:=after,guard:=none}::rest) K fr H=iQ P T E ops rest K (fr.put d (ev T fr x)) H:=rfl
@[simp] theorem adg{x:Operand}:iQ P T E ops ({dst:=d,op:=.assign x,type:=ty,pos:=pos,after:=after,guard:=none}::rest) K fr H=iQ P T E ops rest K (fr.put d (ev T fr x)) H:=rfl
@[simp] theorem aeL{t:TypeId}:iQ P T E ops ({dst:=d,op:=.alloc t,type:=ty,pos:=pos,after:=after,guard:=none}::rest) K fr H=match kj P t with|some z=>k7 E d z (iQ P T E ops rest K) fr H|none=>False:=rfl
@[simp] theorem ahQ{t:TypeId}{x:Operand}:iQ P T E ops ({dst:=d,op:=.box t x,type:=ty,pos:=pos,after:=after,guard:=none}::rest) K fr H=(fC (ev T fr x)=true/\k7 E d (ev T fr x).cells (iQ P T E ops rest K) fr H):=rfl
@[simp] theorem agJ{t:TypeId}{x:Operand}:iQ P T E ops ({dst:=d,op:=.load t x,type:=ty,pos:=pos,after:=after,guard:=none}::rest) K fr H=match vz P fr H t (ev T fr x)with|some v=>iQ P T E ops rest K (fr.put d v) H|none=>False:=rfl
@[simp] theorem agf{t:TypeId}{x y:Operand}:iQ P T E ops ({dst:=none,op:=.store t x y,type:=ty,pos:=pos,after:=after,guard:=none}::rest) K fr H=l_ P t (ev T fr x) (ev T fr y) (iQ P T E ops rest K) fr H:=by simp[iQ,ES,q9]
@[simp] theorem VI{t n:Nat}{a:Array (Nat×Operand)}:iQ P T E ops ({dst:=d,op:=.buildSlice t n a,type:=ty,pos:=pos,after:=after,guard:=none}::rest) K fr H=match mU P t n (a.toList.map λp=>(p.1,ev T fr p.2))with|some v=>J2 E d v (iQ P T E ops rest K) fr H|none=>False:=rfl
@[simp] theorem agG{E:List Nat}{d:Option Nat}{v:AV}{K:Fr->dZ->Prop}{fr:Fr}{H:dZ}:J2 E d v K fr H=if d.any E.contains then(match v with|.slice _ l=>K (fr.put d (.z' H.length 0 l.length l.length)) (H++[l.flatMap AV.cells])|_=>False)else K (fr.put d v) H:=rfl
@[simp] theorem acE{x y:Operand}{t d:Nat}:iQ P T E ops ({dst:=some d,op:=.call {callee:=.builtin .append,args:=#[x,y],argTypes:=#[t,t]},type:=ty,pos:=pos,after:=after,guard:=none}::rest) K fr H=tn P t (ev T fr x) (ev T fr y) d (iQ P T E ops rest K) fr H:=by
 simp only[iQ,ES,q9];unfold tn;rw[<-Dq (T:=T),<-Q7 (T:=T),<-DU (T:=T),MN,false_or]
@[simp] theorem agu{f:Operand}{as:Array Operand}{ts:Array TypeId}:iQ P T E ops ({dst:=d,op:=.call {callee:=.value f,args:=as,argTypes:=ts},type:=ty,pos:=pos,after:=after,guard:=none}::rest) K fr H=lP P T E ops (ev T fr f) (as.toList.map λx=>(ev T fr x).norm) d rest K fr H:=rfl
@[simp] theorem aio{as:Array Operand}{ts:Array TypeId}:iQ P T E ops ({dst:=d,op:=.call {callee:=.builtin .len,args:=as,argTypes:=ts},type:=ty,pos:=pos,after:=after,guard:=none}::rest) K fr H=match yC P T fr {callee:=.builtin .len,args:=as,argTypes:=ts}with|some v=>iQ P T E ops rest K (fr.put d v) H|none=>False:=rfl
@[simp] theorem agK{c a b:Operand}:iQ P T E ops ({dst:=d,op:=.pick c a b,type:=ty,pos:=pos,after:=after,guard:=none}::rest) K fr H=match AG P T fr {dst:=d,op:=.pick c a b,type:=ty,pos:=pos,after:=after,guard:=none}with|some v=>iQ P T E ops rest K (fr.put d v) H|none=>False:=rfl
@[simp] theorem adU{t:TypeId}{a:Array (Nat×Operand)}:iQ P T E ops ({dst:=d,op:=.build t a,type:=ty,pos:=pos,after:=after,guard:=none}::rest) K fr H=match Gh P t (a.toList.map λp=>(p.1,ev T fr p.2))with|some v=>iQ P T E ops rest K (fr.put d v) H|none=>False:=rfl
@[simp] theorem agd{o:BinOp}{t u:TypeId}{x y:Operand}:iQ P T E ops ({dst:=d,op:=.binOp o t x y u,type:=ty,pos:=pos,after:=after,guard:=none}::rest) K fr H=match RL P o t y (ev T fr x) (ev T fr y)with|some v=>iQ P T E ops rest K (fr.put d v) H|none=>False:=rfl
@[simp] theorem ag4{o:UnOp}{t:TypeId}{x:Operand}:iQ P T E ops ({dst:=d,op:=.unOp o t x,type:=ty,pos:=pos,after:=after,guard:=none}::rest) K fr H=match unA o (ev T fr x)with|some v=>iQ P T E ops rest K (fr.put d v) H|none=>False:=rfl
@[simp] theorem Zo{fn:Fn}{f c:Array Operand}:iQ P T E ops ({dst:=d,op:=.makeFunc fn f c,type:=ty,pos:=pos,after:=after,guard:=none}::rest) K fr H=iQ P T E ops rest K (fr.put d (.func fn (f.toList.map λx=>(ev T fr x).norm) (c.toList.map λx=>(ev T fr x).norm))) H:=rfl
@[simp] theorem X7{t i:Nat}{x:Operand}:iQ P T E ops ({dst:=d,op:=.fieldAddr t x i,type:=ty,pos:=pos,after:=after,guard:=none}::rest) K fr H=match tF P t (ev T fr x) i with|some v=>iQ P T E ops rest K (fr.put d v) H|none=>False:=rfl
@[simp] theorem XO{t:TypeId}{x i:Operand}:iQ P T E ops ({dst:=d,op:=.indexAddr t x i,type:=ty,pos:=pos,after:=after,guard:=none}::rest) K fr H=match gJ P t (ev T fr x) (ev T fr i)with|some v=>iQ P T E ops rest K (fr.put d v) H|none=>False:=rfl
@[simp] theorem adY{t:TypeId}{x:Operand}{lo hi a:Option Operand}:iQ P T E ops ({dst:=d,op:=.slice t x lo hi a,type:=ty,pos:=pos,after:=after,guard:=none}::rest) K fr H=match o3 P t (ev T fr x) (lo.map (ev T fr)) (hi.map (ev T fr)) (a.map (ev T fr))with|some v=>iQ P T E ops rest K (fr.put d v) H|none=>False:=rfl
@[simp] theorem aaV{i:Nat}{x:Operand}:iQ P T E ops ({dst:=d,op:=.extract x i,type:=ty,pos:=pos,after:=after,guard:=none}::rest) K fr H=match AG P T fr {dst:=d,op:=.extract x i,type:=ty,pos:=pos,after:=after,guard:=none}with|some v=>iQ P T E ops rest K (fr.put d v) H|none=>False:=rfl
@[simp] theorem ZQ{x:Operand}:iQ P T E ops ({dst:=d,op:=.nilCheck x,type:=ty,pos:=pos,after:=after,guard:=none}::rest) K fr H=match AG P T fr {dst:=d,op:=.nilCheck x,type:=ty,pos:=pos,after:=after,guard:=none}with|some v=>iQ P T E ops rest K (fr.put d v) H|none=>False:=rfl
@[simp] theorem aaz{t:TypeId}:iQ P T E ops ({dst:=d,op:=.makeMap t none,type:=ty,pos:=pos,after:=after,guard:=none}::rest) K fr H=Js d (iQ P T E ops rest K) fr H:=rfl
@[simp] theorem Yj{t:TypeId}{x i y:Operand}:iQ P T E ops ({dst:=none,op:=.mapUpdate t x i y,type:=ty,pos:=pos,after:=after,guard:=none}::rest) K fr H=sF P t (ev T fr x) (ev T fr i) (ev T fr y) (iQ P T E ops rest K) fr H:=by simp[iQ,ES,q9]
@[simp] theorem acr{t:TypeId}{x i y:Operand}:iQ P T E ops ({dst:=none,op:=.insert t x i y,type:=ty,pos:=pos,after:=after,guard:=none}::rest) K fr H=sF P t (ev T fr x) (ev T fr i) (ev T fr y) (iQ P T E ops rest K) fr H:=by simp[iQ,ES,q9]
@[simp] theorem afU{t:TypeId}{x:Operand}:iQ P T E ops ({dst:=d,op:=.range t x,type:=ty,pos:=pos,after:=after,guard:=none}::rest) K fr H=I3 P t (ev T fr x) d (iQ P T E ops rest K) fr H:=rfl
@[simp] theorem af0{x:Operand}:iQ P T E ops ({dst:=d,op:=.entry x,type:=ty,pos:=pos,after:=after,guard:=none}::rest) K fr H=match Ge (ev T fr x) H with|some v=>iQ P T E ops rest K (fr.put d v) H|none=>False:=rfl
@[simp] theorem TP{x:Operand}:iQ P T E ops ({dst:=d,op:=.next x false,type:=ty,pos:=pos,after:=after,guard:=none}::rest) K fr H=LW (ev T fr x) d (iQ P T E ops rest K) fr H:=rfl
@[simp] theorem ae3{op:Op}{j:Nat}{want:Bool}:iQ P T E ops ({dst:=d,op:=op,type:=ty,pos:=pos,after:=after,guard:=some (j,want)}::rest) K fr H=match(ops[j]?).bind (·.dst)with
 |some g=>match fr.env g with
  |.sc (.bool b)=>if b=want then iQ P T E ops ({dst:=d,op:=op,type:=ty,pos:=pos,after:=after,guard:=none}::rest) K fr H else iQ P T E ops rest K (fr.put d (.tuple [])) H|.tuple _=>iQ P T E ops rest K (fr.put d (.tuple [])) H|_=>False
 |none=>False:=rfl
end
@[simp] theorem Fr.aiG(fr:Fr)(d:Nat)(x:AV):fr.put (some d) x={fr with env:=gL fr.env d x}:=rfl
@[simp] theorem ajq{α:Type}(f:Nat->α)(i:Nat)(x:α)(j:Nat):gL f i x j=if j=i then x else f j:=rfl
@[simp] theorem ah8(v:Value):AV.cells (.sc v:AV)=[(.sc v:AV)]:=rfl
@[simp] theorem adx(v:Value):fC (.sc v:AV)=true:=rfl
@[simp] theorem ahe(v:Value):AV.kq (.sc v:AV)=(.sc v:AV):=rfl
@[simp] theorem aja(v:Value):AV.norm (.sc v:AV)=(.sc v:AV):=rfl
@[simp] theorem ai9(P:Program)(ty:TypeId)(v:Value):uL P ty (.sc v:AV)=match gb P ty with|some (false,_)=>true|_=>false:=by
 unfold uL;cases gb P ty with
 |none=>rfl|some p=>grind
@[simp] theorem agV(b g o c:Nat):AV.cells (.xX b g o c:AV)=[(.xX b g o c:AV)]:=rfl
@[simp] theorem aa2(b g o c:Nat):fC (.xX b g o c:AV)=true:=rfl
@[simp] theorem ags(o f:Nat):AV.norm (.fh o f:AV)=(.fh o f:AV):=rfl
@[simp] theorem adT(o:Nat):AV.cells (.nJ o:AV)=[(.nJ o:AV)]:=rfl
@[simp] theorem ZO(o:Nat):fC (.nJ o:AV)=true:=rfl
@[simp] theorem adV(o:Nat):AV.kq (.nJ o:AV)=(.nJ o:AV):=rfl
@[simp] theorem agZ(o:Nat):AV.norm (.nJ o:AV)=(.nJ o:AV):=rfl
@[simp] theorem agp:vu []=false:=rfl
@[simp] theorem afn(c:AV)(cs:List AV):vu (c::cs)=c.gO:=rfl
@[simp] theorem aiV(v:Value):AV.gO (.sc v)=true:=rfl
@[simp] theorem ac1(t:Tag)(l:List AV):AV.gO (.slice t l)=true:=rfl
@[simp] theorem afi(f:Fn)(a c:List AV):AV.gO (.func f a c)=true:=rfl
@[simp] theorem ac9(t:Tag)(l:List AV):AV.cells (.slice t l:AV)=[(.slice t l:AV)]:=rfl
@[simp] theorem X4(t:Tag)(l:List AV):fC (.slice t l:AV)=true:=rfl
@[simp] theorem adF(t:Tag)(l:List AV):AV.kq (.slice t l:AV)=.slice .gK l:=rfl
@[simp] theorem aeN(t:Tag)(l:List AV):AV.norm (.slice t l:AV)=.slice .gK l:=rfl
@[simp] theorem aep(P:Program)(ty:TypeId)(t:Tag)(l:List AV):uL P ty (.slice t l:AV)=match gb P ty with|some (false,_)=>true|_=>false:=by
 unfold uL;cases gb P ty with
 |none=>rfl|some p=>grind
@[simp] theorem agF(cs:List AV):AV.cells (.agg cs:AV)=cs:=rfl
@[simp] theorem aa0(cs:List AV):fC (.agg cs:AV)=true:=rfl
@[simp] theorem ah9(cs:List AV):AV.norm (.agg cs:AV)=.agg (cs.map AV.kq):=rfl
@[simp] theorem uY(P:Program)(ty:TypeId)(cs:List AV):uL P ty (.agg cs)=match gb P ty with|some (true,n)=>cs.length==n|_=>false:=by
 unfold uL;cases gb P ty with
 |none=>rfl|some p=>grind
@[simp] theorem aga(f:Fn)(a c:List AV):AV.cells (.func f a c:AV)=[(.func f a c:AV)]:=rfl
@[simp] theorem Zm(f:Fn)(a c:List AV):fC (.func f a c:AV)=true:=rfl
@[simp] theorem af2(f:Fn)(a c:List AV):AV.kq (.func f a c:AV)=(.func f a c:AV):=rfl
@[simp] theorem agU(f:Fn)(a c:List AV):AV.norm (.func f a c:AV)=(.func f a c:AV):=rfl
@[simp] theorem acV(sz:Nat)(x:AV)(l:List AV):lp sz (x::l)=(x.cells.length==sz):=rfl
def gx(H:dZ)(o:Nat)(c:List AV):dZ:=H.set o c
@[simp] theorem agA{H:dZ}{o:Nat}{x y:List AV}:gx (gx H o x) o y=gx H o y:=by simp[gx]
section
variable{P:Program} {t:TypeId} {k k':IntKind} {a b:Int} {u v:ByteArray} {p q:Bool}
@[simp] theorem ahH{i:Nat}{u v:AV}{op:BinOp}:RL P op t (.tmp i) u v=qC P op t u v:=rfl
@[simp] theorem aiY{i:Int}{u v:AV}{op:BinOp}:RL P op t (.const (.int k i)) u v=qC P op t u v:=rfl
@[simp] theorem ag9:qC P .add t (.sc (.int k a)) (.sc (.int k b))=some (.sc (.int k (eW k a b))):=by simp[qC,uN,qE,eW]
@[simp] theorem ahD:qC P .sub t (.sc (.int k a)) (.sc (.int k b))=some (.sc (.int k (fL k a b))):=by simp[qC,uN,qE,fL]
@[simp] theorem ai0:qC P .mul t (.sc (.int k a)) (.sc (.int k b))=some (.sc (.int k (Vf k a b))):=by simp[qC,uN,qE,Vf]
@[simp] theorem aiQ:qC P .rem t (.sc (.int k a)) (.sc (.int k b))=if Mf b then some (.sc (.int k (Wv k a b)))else none:=by grind[qC,uN,qE,Wv,Mf]
@[simp] theorem ahC:qC P .and t (.sc (.int k a)) (.sc (.int k b))=some (.sc (.int k (Cz k a b))):=by simp[qC,uN,qE,Cz]
@[simp] theorem ajD:qC P .or t (.sc (.int k a)) (.sc (.int k b))=some (.sc (.int k (Vn k a b))):=by simp[qC,uN,qE,Vn]
@[simp] theorem ahW:qC P .shl t (.sc (.int k a)) (.sc (.int k' b))=if Uo b then some (.sc (.int k (aeC k a b)))else none:=by grind[qC,uN,aeC,Uo]
@[simp] theorem ahm:qC P .shr t (.sc (.int k a)) (.sc (.int k' b))=if Uo b then some (.sc (.int k (aeD k a b)))else none:=by grind[qC,uN,aeD,Uo]
@[simp] theorem ain:qC P .eql t (.sc (.int k a)) (.sc (.int k b))=some (.sc (.bool (eo a b))):=by simp[qC,uN,qE,eo]
@[simp] theorem aic:qC P .neq t (.sc (.int k a)) (.sc (.int k b))=some (.sc (.bool (eL a b))):=by simp[qC,uN,qE,eL]
@[simp] theorem ahV:qC P .lss t (.sc (.int k a)) (.sc (.int k b))=some (.sc (.bool (pg a b))):=by simp[qC,uN,qE,pg]
@[simp] theorem aij:qC P .leq t (.sc (.int k a)) (.sc (.int k b))=some (.sc (.bool (Zv a b))):=by simp[qC,uN,qE,Zv]
@[simp] theorem aiO:qC P .gtr t (.sc (.int k a)) (.sc (.int k b))=some (.sc (.bool (pj a b))):=by simp[qC,uN,qE,pj]
@[simp] theorem ahB:qC P .geq t (.sc (.int k a)) (.sc (.int k b))=some (.sc (.bool (qa a b))):=by simp[qC,uN,qE,qa]
@[simp] theorem ajF:unA .not (.sc (.bool p))=some (.sc (.bool (lV p))):=by simp[unA,lV]
@[simp] theorem agO:S8 (.sc (.int k a)) (.sc (.int k' b))=some (.sc (.int k (imax a b))):=rfl
@[simp] theorem ag6{α:Type}{f:α->AV}{tag:Tag}{l:List α}:HY P t (.slice tag (l.map f))=match P.underlying t with|some (.slice _)=>some (.sc (.int .i64 (eA l)))|some (.array n _)=>some (.sc (.int .i64 n))|_=>none:=by
 unfold HY eA;cases P.underlying t with
 |none=>rfl|some y=>grind
@[simp] theorem ahd{tag:Tag}:HY P t (.slice tag [])=match P.underlying t with|some (.slice _)=>some (.sc (.int .i64 0))|some (.array n _)=>some (.sc (.int .i64 n))|_=>none:=by
 unfold HY;cases P.underlying t with
 |none=>rfl|some y=>grind
@[simp] theorem agE{tag:Tag}{x:AV}{l:List AV}:HY P t (.slice tag (x::l))=match P.underlying t with|some (.slice _)=>some (.sc (.int .i64 ((l.length+1:Nat):Int)))|some (.array n _)=>some (.sc (.int .i64 n))|_=>none:=by
 unfold HY;cases P.underlying t with
 |none=>rfl|some y=>grind
@[simp] theorem Xe{α:Type}{f:α->AV}{tag:Tag}{l:List α}:gJ P t (.slice tag (l.map f)) (.sc (.int k a))=match P.underlying t with
  |some (.slice e)=>match dX l a,gb P e with
   |some x,some (_,sz)=>if(f x).cells.length=sz then some (.mA (f x))else none|_,_=>none
  |_=>none:=by
 unfold gJ dX;cases P.underlying t with
 |none=>rfl|some y=>
  cases y<;>try rfl
  rename_i e;simp only[zl]
  by_cases h:0<=a
  ·rw[dR h,dR h];cases l[a.toNat]?with
   |none=>rfl|some x=>cases gb P e<;>rfl
  ·rw[dK h,dK h]
def Jr{α:Type}{f:α->AV}{L:List α}{n e:Nat}(hu:P.underlying t=some (.array n e))(b:gb P e=some (false,1))(hn:L.length=n):gJ P t (.mA (.agg (L.map f))) (.sc (.int k a))=(dX L a).map λx=>.mA (f x):=by
 unfold gJ dX
 grind[mB,AV.cells]
end
attribute [simp] ev ofValue qx zs k7 Js vz mB tF DJ Gh Hv mU setCells E' Mk yC AG
 rl Gz rootOf isG isL Qk KP wS IM
@[simp] theorem adq{P:Program}{t:TypeId}{b g off:Nat}{v:AV}{K:Fr->dZ->Prop}{fr:Fr}{H:dZ}:l_ P t (.ie b g off) v K fr H=match gb P t with
  |none=>False|some (_,n)=>match fr.box b with
   |some cs=>g=fr.gen b/\v.cells.length=n/\off+n<=cs.length/\fC v=true/\K {fr with box:=gL fr.box b (some (setCells cs off v.cells))} H|none=>False:=by
 unfold l_;cases gb P t with
 |none=>rfl|some p=>rfl
@[simp] theorem acG{P:Program}{t:TypeId}{o off:Nat}{v:AV}{K:Fr->dZ->Prop}{fr:Fr}{H:dZ}:l_ P t (.fh o off) v K fr H=match gb P t with
  |none=>False|some (_,n)=>match H[o]?with
   |some cs=>vu cs=true/\v.cells.length=n/\off+n<=cs.length/\fC v=true/\K fr (H.set o (setCells cs off v.norm.cells))|none=>False:=by
 unfold l_;cases gb P t with
 |none=>rfl|some p=>rfl
def h9.SS{P:Program}{T:eO}{n:Nat}{Q:Exit->Fr->dZ->Prop}{fr:Fr}{H:dZ}{c:Code}(I:Nat->Fr->dZ->Prop)(m:Nat)(b:I m fr H)
  (d:∀m fr H,I m fr H->∀K:Fr->dZ->Prop,(∀fr' H' a,a<m->I a fr' H'->K fr' H')->h9 P T n c (IM K Q) fr H):h9 P T n (.loop c) Q fr H:=by
 refine h9.loop ?_
 have key:∀k fr H,I k fr H->ALp P T n c Q fr H:=by
  intro k
  induction k using Nat.strongRecOn with
  |_ k ih=>grind[ALp.round,h9.mono]
 grind
def NI(v:AV)(A B:Prop):Prop:=match v with|.sc (.bool t)=>if t then A else B|_=>False
@[simp] theorem adB(t:Bool)(A B:Prop):NI (.sc (.bool t)) A B=if t then A else B:=rfl
section
variable{P:Program} {T:eO} {n:Nat} {Q:Exit->Fr->dZ->Prop} {fr:Fr} {H:dZ}
def h9.C'{c:Operand}{x y:Code}
  (h:∀A B:Fr->dZ->Prop,(∀fr H,h9 P T n x Q fr H->A fr H)->(∀fr H,h9 P T n y Q fr H->B fr H)->NI (ev T fr c) (A fr H) (B fr H)) (b:jq c=true:=by rfl):h9 P T n (.cond c x y) Q fr H:=by
 have a:=h (h9 P T n x Q) (h9 P T n y Q) (λ_ _ h=>h) (λ_ _ h=>h);generalize d:ev T fr c=v at a;cases v with
 |sc w=>
  cases w with
  |bool t=>
   refine h9.cond d b (λf=>?_) (λf=>?_)
   all_goals simp_all
  |_=>exact a.elim
 |_=>exact a.elim
def h9.sr{id:Nat}{ops:Array Oper}{y:Code}(E:List Nat)(h:∀K:Fr->dZ->Prop,(∀fr H,h9 P T n y Q fr H->K fr H)->iQ P T E ops ops.toList K fr H)(a:Bu n ops=true:=by decide+kernel):h9 P T n (.seq (.region id ops false) y) Q fr H:=
 h9.DM λK b=>h9.region E a (h K b)
def h9.aiZ{x y:Code}(R:Fr->dZ->Prop)(b:∀K:Fr->dZ->Prop,(∀fr H,R fr H->K fr H)->h9 P T n x (IM K Q) fr H)(c:∀fr H,R fr H->h9 P T n y Q fr H):h9 P T n (.seq x y) Q fr H:=
 h9.seq ((b R λ_ _ h=>h).mono λe fr' H' a=>by cases e<;>first|exact c _ _ a|exact a)
end
@[simp] theorem range_one:List.range 1=[0]:=rfl
@[simp] theorem ahX:List.range 2=[0,1]:=rfl
@[simp] theorem ahn:List.range 3=[0,1,2]:=rfl
section
variable{P:Program} {t e sz:Nat} {bl:Bool} {tag:Tag} {α:Type} {k k' k2:IntKind} {a b:Int} {u:ByteArray}
def aci(h:0<=a):MD (some (.sc (.int k a)))=some (some a.toNat):=by simp[MD,h]
theorem abM(h:¬0<=a):MD (some (.sc (.int k a)))=none:=by simp[MD,h]
theorem M9{x:AV}{lo hi:Option AV}(h:MD lo=none):o3 P t x lo hi none=none:=by unfold o3;rw[h]
def Qa{lo hi:Option AV}{a hi':Option Nat}(b:MD lo=some a)(c:MD hi=some hi')(f:α->AV)(l:List α)(hu:P.underlying t=some (.slice e))(d:gb P e=some (bl,sz))(i:∀x,(f x).cells.length=sz):o3 P t (.slice tag (l.map f)) lo hi none=if hi'.getD l.length<=l.length/\a.getD 0<=hi'.getD l.length then some (.slice .gK (((l.take (hi'.getD l.length)).drop (a.getD 0)).map f))else none:=by
 have h:lp sz (l.map f)=true:=by
  cases l with
  |nil=>rfl|cons x l=>simp_all
 unfold o3;rw[b,c];simp only[MD,hu,d,h];simp
def N8(f:α->AV)(l:List α)(hu:P.underlying t=some (.slice e))(b:gb P e=some (bl,sz))(c:∀x,(f x).cells.length=sz):o3 P t (.slice tag (l.map f)) (some (.sc (.int k a))) none none=(tv l a (eA l)).map λr=>.slice .gK (r.map f):=by
 unfold tv eA
 by_cases d:0<=a
 ·rw[Qa (aci d) (hi:=none) (hi':=none) rfl f l hu b c]
  grind
 ·grind[M9,abM]
end
def wG{P:Program}{t e sz:Nat}{b:Bool}{tag:Tag}{α:Type}(f:α->AV)(l:List α)(hu:P.underlying t=some (.slice e))(a:gb P e=some (b,sz))(c:∀x,(f x).cells.length=sz):o3 P t (.slice tag (l.map f)) none (some (.sc (.int .i64 (Go.fF.eA l)))) (some (.sc (.int .i64 (Go.fF.eA l))))=some (.slice .full (l.map f)):=by
 have h:lp sz (l.map f)=true:=by
  cases l with
  |nil=>rfl|cons x l=>simp_all
 simp[o3,MD,hu,a,h,Go.fF.eA,<-List.map_take]
def tu{α:Type}(f:α->AV)(l:List (Int×α)):AV:=.uS (l.map λp=>Value.int .i64 p.1) (l.map λp=>f p.2)
@[simp] theorem ahE{α:Type}(f:α->AV):tu f []=.uS [] []:=rfl
def WV{α:Type}(l:List (Int×α))(k:Int):mapIdx (l.map λp=>Value.int .i64 p.1) (.int .i64 k)=l.findIdx? (λp=>p.1==k):=by
 unfold mapIdx;rw[List.findIdx?_map];rfl
def Uf{α:Type}(l:List (Int×α)):(l.map λp=>Value.int .i64 p.1).all (IJ (.int .i64))=true:=by
 rw[ll];intro x a;obtain⟨p,_,rfl⟩:=qz.1 a;rfl
def Ov{α:Type}(f:α->AV):∀(l:List (Int×α)) (k:Int) (y:α),Gw (l.map λp=>Value.int .i64 p.1) (l.map λp=>f p.2) (.int .i64 k) (f y)=tu f (wJ l k y)
 |[],k,y=>rfl|p::l,k,y=>by
  have ih:=Ov f l k y;unfold Gw at ih|-;rw[WV] at ih|-;rw[aeo];unfold wJ
  by_cases h:p.1=k
  ·grind[tu]
  ·rw[dK (by simpa using h),dK h];cases hi:l.findIdx? (λp=>p.1==k)with
   |none=>
    rw[hi] at ih;simp only[tu,AV.uS.injEq] at ih;simp[tu,<-ih.1,<-ih.2]
   |some j=>
    rw[hi] at ih;simp only[tu,AV.uS.injEq] at ih;simp[tu,<-ih.1,<-ih.2]
section
variable{P:Program} {t kt e:TypeId} {o:Nat} {k:Int} {α:Type} {f:α->AV} {d:Option Nat} {K:Fr->dZ->Prop} {fr:Fr} {H:dZ}
def uG.i64(l:List (Int×α))(y:α){v:AV}(hu:P.underlying t=some (.map kt e))(a:P.underlying kt=some (.int .i64))(b:H[o]?=some [tu f l])(c:v.norm=f y)(d:K fr (gx H o [tu f (wJ l k y)])):sF P t (.nJ o) (.sc (.int .i64 k)) v K fr H:=by
 unfold sF;simp only[hu,a,b];refine⟨rfl,Uf l,?_⟩;rw[c,Ov];exact d
end
end Go.ld
