/- Part of the proof of SchemeChains: layer. -/
import Derived.Test.YtpgdkkomegalnaaGreatDoorHL19
set_option linter.all false
namespace Go.lD
open Go Go.fP
section
variable{P:Program} {T:eK} {n B0:Nat} {ρ:Maps} {F:la} {R:Nat->oY} {fr:Fr} {H:dV} {a:Act} {w:World}
def WR.adJ(h:WR T n B0 ρ F R fr H a w){d:Nat}{cs:List AV}(B:fr.box d=some cs):WR T n B0 ρ F (gN R (ρ.L d (fr.gen d)) .free) {fr with box:=gN fr.box d none} H a w:=by
 obtain⟨J,C,K,vs,ty,M,N⟩:=h.box d cs B
 have i:∀l,R l≠ .box d->gN R (ρ.L d (fr.gen d)) .free l=R l:=by
  intro l r;unfold gN;rw[dK];rintro rfl;exact r C
 refine⟨h.g,h.size,h.defers,h.env,h.hn,h.lg,h.ag,?_,?_,?_,?_,?_,h.q8⟩
 .intro q s f;simp only[gN] at f
  by_cases he:q=d
  .rw[dO he] at f;cases f
  .rw[dK he] at f;obtain⟨u,t,x⟩:=h.box q s f
   grind
 .intro k m D b c sz G;obtain⟨u,t,x⟩:=h.tok k m D b c sz G;exact⟨u,by rw[i _ (by rw[t];simp)];exact t,x⟩
 .intro b j v y q;rw[i b (h.qV b j v y d)];exact h.qV b j v y q
 .intro o A;rw[i _ (by rw[h.oM o A];simp)];exact h.oM o A
 .intro b I;have:R b=.free:=h.lZ b I;rw[i b (by rw[this];simp)];exact this
def WR.share(h:WR T n B0 ρ F R fr H a w){d:Nat}{cs:List AV}(c:fr.box d=some cs)(he:fr.env d=.h9 d (fr.gen d) 0):∃ρ' i,(∀o,o<H.length->ρ'.G o=ρ.G o)/\ρ'.G H.length=ρ.L d (fr.gen d)/\B0<=ρ.L d (fr.gen d)/\WR T n B0 ρ' F i {fr with env:=gN fr.env d (.fg H.length 0),box:=gN fr.box d none} (H++[cs.map AV.kA]) a w:=by
 obtain⟨l,q,r,vs,ty,s,u⟩:=h.box d cs c;have x:=(vD (by have:=h.env d;rw[he] at this;exact this)).1
 have hF:∀j,F (ρ.L d (fr.gen d)) j=none:=by
  intro j;cases y:F (ρ.L d (fr.gen d)) j with
  |none=>rfl|some v=>exact absurd q (h.qV _ j v y d)
 obtain⟨ρ',i,hG,f,k,hw⟩:=(h.adJ c).N6 (b:=ρ.L d (fr.gen d)) (by simp[gN]) hF s (.cells (.inl rfl) (u.wH AV.kA λ_ _ _ h=>h.kA) (yo r));refine⟨ρ',i,hG,f,l,?_⟩;refine⟨hw.g,hw.size,hw.defers,?_,hw.hn,hw.lg,hw.ag,hw.box,hw.tok,hw.qV,hw.oM,hw.lZ,hw.q8⟩;intro t;have A:=hw.env t;simp only[gN]
 by_cases c:t=d
 .subst c;rw[dO rfl,x,<-f];exact .cell (.p (.fg (by rw[k];omega)))
 .rw[dK c];exact A
def gv.agc{c:Code}{Q:Exit->Fr->dV->Prop}{d:Nat}{cs:List AV}(f:fr.box d=some cs)(he:fr.env d=.h9 d (fr.gen d) 0)(h:gv P T n c Q {fr with env:=gN fr.env d (.fg H.length 0),box:=gN fr.box d none} (H++[cs.map AV.kA])):gv P T n c Q fr H:=by
 intro G0 F0 n0 w0 a w hs;refine h G0 F0 n0 w0 a w ?_;obtain⟨ρ,F,R,hw,i⟩:=hs;obtain⟨ρ',j,hG,k,l,b⟩:=hw.share f he;refine⟨ρ',F,j,b,?_⟩;rw[oV];exact i.af6 hG (by grind)
end
section
variable{X:Cx} {k:Nat} {S:List It} {fr:Fr} {H:dV} {c:Code}
def CF(k:Nat){d:Nat}{cs:List AV}(b:fr.box d=some cs)(he:fr.env d=.h9 d (fr.gen d) 0)(h:Wf X k (.c c::S) {fr with env:=gN fr.env d (.fg H.length 0),box:=gN fr.box d none} (H++[cs.map AV.kA])):Wf X 0 (.c c::S) fr H:=
 λhm a=>gv.agc b he (l8 X k _ _ _ h hm a)
end
end Go.lD
