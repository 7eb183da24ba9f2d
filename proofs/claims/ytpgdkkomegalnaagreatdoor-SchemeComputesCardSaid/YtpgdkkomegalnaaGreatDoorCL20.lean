/- Part of the proof of SchemeComputes: layer. -/
import Derived.Test.YtpgdkkomegalnaaGreatDoorCL19
set_option linter.all false
namespace Go.ld
open Go Go.fF
section
variable{P:Program} {T:eO} {n B0:Nat} {ρ:Maps} {F:kT} {R:Nat->oz} {fr:Fr} {H:dZ} {a:Act} {w:World}
def WR.aah(h:WR T n B0 ρ F R fr H a w){d:Nat}{cs:List AV}(B:fr.box d=some cs):WR T n B0 ρ F (gL R (ρ.L d (fr.gen d)) .free) {fr with box:=gL fr.box d none} H a w:=by
 obtain⟨J,C,K,vs,ty,M,N⟩:=h.box d cs B
 have i:∀l,R l≠ .box d->gL R (ρ.L d (fr.gen d)) .free l=R l:=by
  intro l r;unfold gL;rw[dK];rintro rfl;exact r C
 refine⟨h.g,h.size,h.defers,h.env,h.hn,h.lg,h.ag,?_,?_,?_,?_,?_,h.qw⟩
 ·intro q s f;simp only[gL] at f
  by_cases he:q=d
  ·rw[dR he] at f;cases f
  ·rw[dK he] at f;obtain⟨u,t,x⟩:=h.box q s f
   grind
 ·intro k m D b c sz G;obtain⟨u,t,x⟩:=h.tok k m D b c sz G;exact⟨u,by rw[i _ (by rw[t];simp)];exact t,x⟩
 ·intro b j v y q;rw[i b (h.qt b j v y d)];exact h.qt b j v y q
 ·intro o A;rw[i _ (by rw[h.ou o A];simp)];exact h.ou o A
 ·intro b I;have:R b=.free:=h.lL b I;rw[i b (by rw[this];simp)];exact this
def WR.share(h:WR T n B0 ρ F R fr H a w){d:Nat}{cs:List AV}(c:fr.box d=some cs)(he:fr.env d=.ie d (fr.gen d) 0):∃ρ' i,(∀o,o<H.length->ρ'.G o=ρ.G o)/\ρ'.G H.length=ρ.L d (fr.gen d)/\B0<=ρ.L d (fr.gen d)/\WR T n B0 ρ' F i {fr with env:=gL fr.env d (.fh H.length 0),box:=gL fr.box d none} (H++[cs.map AV.kq]) a w:=by
 obtain⟨l,q,r,vs,ty,s,u⟩:=h.box d cs c;have x:=(v' (by have:=h.env d;rw[he] at this;exact this)).1
 have hF:∀j,F (ρ.L d (fr.gen d)) j=none:=by
  intro j;cases y:F (ρ.L d (fr.gen d)) j with
  |none=>rfl|some v=>exact absurd q (h.qt _ j v y d)
 obtain⟨ρ',i,hG,f,k,hw⟩:=(h.aah c).M6 (b:=ρ.L d (fr.gen d)) (by simp[gL]) hF s (.cells (.inl rfl) (u.wk AV.kq λ_ _ _ h=>h.kq) (yl r));refine⟨ρ',i,hG,f,l,?_⟩;refine⟨hw.g,hw.size,hw.defers,?_,hw.hn,hw.lg,hw.ag,hw.box,hw.tok,hw.qt,hw.ou,hw.lL,hw.qw⟩;intro t;have A:=hw.env t;simp only[gL]
 by_cases c:t=d
 ·subst c;rw[dR rfl,x,<-f];exact .cell (.p (.fh (by rw[k];omega)))
 ·rw[dK c];exact A
def h9.ad3{c:Code}{Q:Exit->Fr->dZ->Prop}{d:Nat}{cs:List AV}(f:fr.box d=some cs)(he:fr.env d=.ie d (fr.gen d) 0)(h:h9 P T n c Q {fr with env:=gL fr.env d (.fh H.length 0),box:=gL fr.box d none} (H++[cs.map AV.kq])):h9 P T n c Q fr H:=by
 intro G0 F0 n0 w0 a w hs;refine h G0 F0 n0 w0 a w ?_;obtain⟨ρ,F,R,hw,i⟩:=hs;obtain⟨ρ',j,hG,k,l,b⟩:=hw.share f he;refine⟨ρ',F,j,b,?_⟩;rw[nB];exact i.afT hG (by grind)
end
section
variable{X:Cx} {k:Nat} {S:List It} {fr:Fr} {H:dZ} {c:Code}
def DD(k:Nat){d:Nat}{cs:List AV}(b:fr.box d=some cs)(he:fr.env d=.ie d (fr.gen d) 0)(h:Wf X k (.c c::S) {fr with env:=gL fr.env d (.fh H.length 0),box:=gL fr.box d none} (H++[cs.map AV.kq])):Wf X 0 (.c c::S) fr H:=
 λhm a=>h9.ad3 b he (lZ X k _ _ _ h hm a)
end
end Go.ld
