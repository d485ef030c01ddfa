/- texts of the nF, e5 behind the l0 -/
import Derived.Test.YtifflnhooaophaaGreatDoorVA
set_option linter.unusedVariables false
set_option linter.unusedSimpArgs false
set_option linter.unusedSectionVars false
set_option maxRecDepth 100000
namespace J
open Go Go.Ab
namespace V
variable{w:bN}
theorem aBc{x:List Int}{ak:List (List Int)}(h1:¬(w.bA≠0\/w.dL=4))(h2:w.dL≠1)(aB:w.dL≠3)(al:w.gi=x::ak):w.step=(true,w.fill x ak):=by simp_all[bN.step]
theorem aBd{bI:j5}{q:List j5}(h1:¬(w.bA≠0\/w.dL=4))(h2:w.dL≠1)(aB:w.dL≠3)(al:w.gi=[])(cf:w.q=bI::q):w.step=(true,({w with q:=q}:bN).jJ bI):=by simp_all[bN.step]
theorem aBe{bI:j5}:(w.jJ bI).q=w.q:=by
 unfold bN.jJ
 grind[bN.yw,bN.body]
end V
end J
namespace J
open Go Go.Ab
namespace V
end V
end J
namespace J
open Go Go.Ab
namespace V
end V
end J
namespace J
open Go Go.Ab
namespace V
end V
end J
namespace J
open Go Go.Ab
namespace V
variable{m:bn}{d:bG}{part aZ a b:Int}
theorem aBf(h:(d.gG a).2=0):(d.gG a).1.cells=(d.cells.set a.toNat {d.cell a with lp:=(d.cell a).lp+1}).set a.toNat {(d.step.iW a {d.cell a with lp:=(d.cell a).lp+1}).cell a with fa:=o6}:=by unfold bG.gG at h⊢;split at h;cases h;split at h;cases h;split at h;cases h;split at h;cases h;rename_i h1 h2 aB bk;rw[if_neg h1,if_neg h2,if_neg aB,if_neg bk];rfl
theorem aBg(Hk:a.toNat≠b.toNat):((d.gG a).1.eT b)=d.eT b:=by
 by_cases h:(d.gG a).2=0
 simp_all[bG.eT,aBf,bG.gF,bG.cell]
 unfold bG.gG at h⊢;split;rfl;split;rfl;split;rfl;split;rfl
 simp_all
theorem HB{o:Op}{e:Int}:(m.o9 o e).hq=m.hq/\(m.o9 o e).d=m.d:=by grind[bn.o9]
theorem agO{iw:bn}(h:iw.hq=m.hq):iw.size part=m.size part:=by obtain⟨a,b,c,d⟩:=m;obtain⟨cq,c0,b5,eQ⟩:=iw;have h:c0=b:=h;subst h;rfl
theorem agP{iw:bn}(h:iw.hq=m.hq):iw.fH part aZ=m.fH part aZ:=by obtain⟨a,b,c,d⟩:=m;obtain⟨cq,c0,b5,eQ⟩:=iw;have h:c0=b:=h;subst h;rfl
theorem agQ:(m.gG part aZ).1.hq=m.hq:=by grind[bn.gG,HB]
theorem Tl{s:List Int}:(m.fz part aZ s).1.hq=m.hq:=by grind[bn.fz,HB]
theorem aBh{z:Int}(h1:(m.fH part aZ).2=0)(h2:(m.fH part z).2=0)(dQ:aZ≠z):(m.fH part aZ).1.toNat≠(m.fH part z).1.toNat:=by
 unfold bn.fH at*
 grind
theorem agR{s:fM}{t:Nat}{f:bn->bn×Int}(h:(s.as m t f).2=0):(s.as m t f).1={(f {m with eo:=s.dw}).1 with eo:=m.eo}/\(f {m with eo:=s.dw}).2=0:=by
 unfold fM.as at h⊢
 grind
end V
end J
namespace J
open Go Go.Ab
namespace V
variable{m:bn}{part aZ:Int}
theorem aBi{s:List Int}(h:(m.fz part aZ s).2=0):(m.fH part aZ).2=0:=by
 unfold bn.fz at h
 grind
theorem agS{i:Nat}{m:dm}(h:(gm m i).2≠0):i<m.bo.length:=by grind[gm]
end V
end J
