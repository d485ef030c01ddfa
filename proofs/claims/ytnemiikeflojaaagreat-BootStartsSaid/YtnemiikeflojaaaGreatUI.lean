/- texts of the proof, one behind the other -/
import Derived.Test.YtnemiikeflojaaaGreatUH
set_option linter.unusedSectionVars false
set_option linter.unusedVariables false
set_option linter.unusedSimpArgs false
set_option maxRecDepth 100000
namespace J
open Go Go.Ab
variable{H:Heap}{Γ:List (Nat × Blk)}{K:VH}
theorem zzO:zc P 127=tbC ⟨slz 0,slz 0,0,0,0⟩:=by kernel_rfl
variable{s:Sl}
theorem ziv(hO:St H Γ)(hk:∀ H',St H' Γ→K (.bool (decide (zQh s))) H'):wCall P zBm [agg (slC s)] H K:=by
 apply zsz; unfold zrz
 refine zxa hO ?_
 intro p H hO
 repeat (first|refine oi ?_|refine ld hO 0 rfl rfl ?_)
 by_cases h:s.st=2
 ·repeat (first|refine oi ?_|refine wy ?_)
  rw[decide_eq_true (show zQh s from .inl h)] at hk
  exact hk _ hO.left
 ·repeat (first|refine oi ?_|refine wn ?_|refine ld hO 0 rfl rfl ?_)
  rw[show decide (zQh s)=decide (s.st=3) from decide_eq_decide.2 (by unfold zQh; omega)] at hk
  exact hk _ hO.left
variable{H:Heap}{Γ:List (Nat × Blk)}{K:VH}
section
variable{s:Sl}
theorem zCh(hO:St H Γ)(hk:∀ H',St H' Γ→K (.bool (decide (zbh s))) H'):wCall P zOg [agg (slC s)] H K:=by
 apply zYq; unfold zKn
 refine zxa hO ?_
 intro p H hO
 refine zia hO (Γ.length+0) (zqa rfl) rfl (by omega) ?_
 refine zMb hO ?_
 intro H hO
 by_cases hr:SRight s
 ·rw[decide_eq_true hr]
  repeat (first|refine oi ?_|refine wt ?_|refine ld hO 0 rfl rfl ?_)
  by_cases h:s.st=3
  ·repeat (first|refine oi ?_|refine wy ?_)
   rw[decide_eq_true (show zbh s from⟨hr,.inl h⟩)] at hk
   exact hk _ hO.left
  ·repeat (first|refine oi ?_|refine wn ?_|refine ld hO 0 rfl rfl ?_)
   by_cases h2:s.st=2
   ·repeat (first|refine oi ?_|refine wy ?_|refine ld hO 0 rfl rfl ?_)
    rw[show decide (zbh s)=decide (0 < s.tr) from decide_eq_decide.2 ⟨fun h=>by unfold zbh at h; omega,fun h=>⟨hr,.inr ⟨h2,h⟩⟩⟩] at hk
    exact hk _ hO.left
   ·repeat (first|refine oi ?_|refine wn ?_)
    rw[decide_eq_false (show ¬ zbh s from fun h=>by unfold zbh at h; omega)] at hk
    exact hk _ hO.left
 ·rw[decide_eq_false hr]
  repeat (first|refine oi ?_|refine wf' ?_)
  rw[decide_eq_false (show ¬ zbh s from fun h=>hr h.1)] at hk
  exact hk _ hO.left
theorem zgh(hO:St H Γ)(hk:∀ H',St H' Γ→K (.bool (decide (zbh s))) H'):wCall P zce [agg (slC s)] H K:=by
 apply zep; unfold zXl
 refine zxa hO ?_
 intro p H hO
 refine zia hO (Γ.length+0) (zqa rfl) rfl (by omega) ?_
 refine zCb hO ?_
 intro H hO
 by_cases hr:SRight s
 ·rw[decide_eq_true hr]
  repeat (first|refine oi ?_|refine wt ?_|refine ld hO 0 rfl rfl ?_)
  by_cases h:s.st=3
  ·repeat (first|refine oi ?_|refine wy ?_)
   rw[decide_eq_true (show zbh s from⟨hr,.inl h⟩)] at hk
   exact hk _ hO.left
  ·repeat (first|refine oi ?_|refine wn ?_|refine ld hO 0 rfl rfl ?_)
   by_cases h2:s.st=2
   ·repeat (first|refine oi ?_|refine wy ?_|refine ld hO 0 rfl rfl ?_)
    rw[show decide (zbh s)=decide (1≤s.tr) from decide_eq_decide.2 ⟨fun h=>by unfold zbh at h; omega,fun h=>⟨hr,.inr ⟨h2,by omega⟩⟩⟩] at hk
    exact hk _ hO.left
   ·repeat (first|refine oi ?_|refine wn ?_)
    rw[decide_eq_false (show ¬ zbh s from fun h=>by unfold zbh at h; omega)] at hk
    exact hk _ hO.left
 ·rw[decide_eq_false hr]
  repeat (first|refine oi ?_|refine wf' ?_)
  rw[decide_eq_false (show ¬ zbh s from fun h=>hr h.1)] at hk
  exact hk _ hO.left
end
variable{H:Heap}{Γ:List (Nat × Blk)}{K:VH}
section
variable{s:Sl}
def zSL:Sl × Int:=(slz 0,101)
def zKA(s:Sl):Sl × Int:=if SRight s∧zQh s then (slz 4,0) else zSL
def zSE(s:Sl):Sl × Int:=if SRight s∧s.st=2∧0 < s.tr then ({ s with tr:=s.tr - 1 },0) else zSL
abbrev slR(r:Sl × Int):Value:=.tuple [agg (slC r.1),int r.2].toArray
theorem zhy(hO:St H Γ)(hk:∀ H',St H' Γ→K (slR (zKA s)) H'):wCall P zVo [agg (slC s)] H K:=by
 apply zAB; unfold ziD
 refine zxa hO ?_
 intro p H hO
 rw[zGE]
 refine zxa hO ?_
 intro q H hO
 rw[List.append_assoc] at hO
 refine zwa (fun l' H'=>l'=[ptr q 0,.bool (decide ¬(SRight s∧zQh s))]∧St H' (Γ++[(p,⟨slC s,true⟩),(q,⟨slC (slz 0),true⟩)])) ?_ ?_
 ·refine zia hO (Γ.length+0) (zqa rfl) rfl (by omega) ?_
  refine zMb hO ?_
  intro H hO
  by_cases hr:SRight s
  ·rw[decide_eq_true hr]
   repeat (first|refine oi ?_|refine wf' ?_)
   refine zia hO (Γ.length+0) (zqa rfl) rfl (by omega) ?_
   refine ziv hO ?_
   intro H hO
   repeat refine oi ?_
   refine⟨?_,hO⟩
   rw[show (decide ¬(SRight s∧zQh s))=!decide (zQh s) by by_cases hf:zQh s <;> simp[hr,hf]]
  ·rw[decide_eq_false hr]
   repeat (first|refine oi ?_|refine wt ?_)
   refine⟨?_,hO⟩
   rw[show (decide ¬(SRight s∧zQh s))=true by simp[hr]]
 clear hO
 rintro l' H ⟨rfl,hO⟩
 try simp only[zla,zma]
 refine zja (fun h=>?_) (fun h=>?_)
 ·rw[show zKA s=zSL from if_neg h] at hk
  refine zaa b26 ?_
  refine zoa hO (Γ.length+1) (zqa rfl) rfl rfl rfl ?_
  intro H hO
  have hO:=hO.set_r
  refine zia hO (Γ.length+1) (zqa rfl) rfl (by omega) ?_
  exact hk _ hO.left
 ·have h:SRight s∧zQh s:=Decidable.not_not.1 h
  rw[show zKA s=(slz 4,0) from if_pos h] at hk
  refine zaa (zfL 4) ?_
  refine zoa hO (Γ.length+1) (zqa rfl) rfl rfl rfl ?_
  intro H hO
  have hO:=hO.set_r
  refine zia hO (Γ.length+1) (zqa rfl) rfl (by omega) ?_
  exact hk _ hO.left
theorem zjv(hO:St H Γ)(hk:∀ H',St H' Γ→K (slR (zKA s)) H'):wCall P zzm [agg (slC s)] H K:=by
 apply zoz; unfold znz
 refine zxa hO ?_
 intro p H hO
 rw[zGE]
 refine zxa hO ?_
 intro q H hO
 rw[List.append_assoc] at hO
 refine zwa (fun l' H'=>l'=[ptr q 0,.bool (decide ¬(SRight s∧zQh s))]∧St H' (Γ++[(p,⟨slC s,true⟩),(q,⟨slC (slz 0),true⟩)])) ?_ ?_
 ·refine zia hO (Γ.length+0) (zqa rfl) rfl (by omega) ?_
  refine zCb hO ?_
  intro H hO
  by_cases hr:SRight s
  ·rw[decide_eq_true hr]
   repeat (first|refine oi ?_|refine wf' ?_|refine ld hO 0 rfl rfl ?_)
   by_cases h2:s.st=2
   ·repeat (first|refine oi ?_|refine wn ?_)
    refine⟨?_,hO⟩
    rw[decide_eq_false (show ¬ ¬(SRight s∧zQh s) from fun h=>h ⟨hr,.inl h2⟩)]
   ·repeat (first|refine oi ?_|refine wy ?_|refine ld hO 0 rfl rfl ?_)
    refine⟨?_,hO⟩
    rw[show (decide ¬(SRight s∧zQh s))=decide (s.st≠3) from decide_eq_decide.2 (by unfold zQh; constructor; exact fun h h3=>h ⟨hr,.inr h3⟩; (rintro h ⟨_,h3|h3⟩; exact h2 h3; exact h h3))]
  ·rw[decide_eq_false hr]
   repeat (first|refine oi ?_|refine wt ?_)
   refine⟨?_,hO⟩
   rw[show (decide ¬(SRight s∧zQh s))=true by simp[hr]]
 clear hO
 rintro l' H ⟨rfl,hO⟩
 try simp only[zla,zma]
 refine zja (fun h=>?_) (fun h=>?_)
 ·rw[show zKA s=zSL from if_neg h] at hk
  refine zaa b26 ?_
  refine zoa hO (Γ.length+1) (zqa rfl) rfl rfl rfl ?_
  intro H hO
  have hO:=hO.set_r
  refine zia hO (Γ.length+1) (zqa rfl) rfl (by omega) ?_
  exact hk _ hO.left
 ·have h:SRight s∧zQh s:=Decidable.not_not.1 h
  rw[show zKA s=(slz 4,0) from if_pos h] at hk
  refine zaa (zfL 4) ?_
  refine zoa hO (Γ.length+1) (zqa rfl) rfl rfl rfl ?_
  intro H hO
  have hO:=hO.set_r
  refine zia hO (Γ.length+1) (zqa rfl) rfl (by omega) ?_
  exact hk _ hO.left
theorem ziy(hO:St H Γ)(hk:∀ H',St H' Γ→K (slR (zSE s)) H'):wCall P zWo [agg (slC s)] H K:=by
 apply zCB; unfold zkD
 refine zxa hO ?_
 intro p H hO
 rw[zGE]
 refine zxa hO ?_
 intro q H hO
 rw[List.append_assoc] at hO
 refine zwa (fun l' H'=>l'=[ptr p 0,ptr q 0,.bool (decide ¬(SRight s∧s.st=2∧0 < s.tr))]∧St H' (Γ++[(p,⟨slC s,true⟩),(q,⟨slC (slz 0),true⟩)])) ?_ ?_
 ·refine zia hO (Γ.length+0) (zqa rfl) rfl (by omega) ?_
  refine zMb hO ?_
  intro H hO
  by_cases hr:SRight s
  ·rw[decide_eq_true hr]
   repeat (first|refine oi ?_|refine wf' ?_|refine ld hO 0 rfl rfl ?_)
   by_cases h2:s.st=2
   ·repeat (first|refine oi ?_|refine wn ?_|refine ld hO 0 rfl rfl ?_)
    refine⟨?_,hO⟩
    have h0:0≤s.tr:=by unfold SRight at hr; omega
    rw[show (decide ¬(SRight s∧s.st=2∧0 < s.tr))=decide (s.tr=0) from decide_eq_decide.2 ⟨fun h=>by have:¬ 0 < s.tr:=fun h3=>h ⟨hr,h2,h3⟩; omega,fun h h3=>by omega⟩]
   ·repeat (first|refine oi ?_|refine wy ?_)
    refine⟨?_,hO⟩
    rw[decide_eq_true (show ¬(SRight s∧s.st=2∧0 < s.tr) from fun h=>h2 h.2.1)]
  ·rw[decide_eq_false hr]
   repeat (first|refine oi ?_|refine wt ?_)
   refine⟨?_,hO⟩
   rw[show (decide ¬(SRight s∧s.st=2∧0 < s.tr))=true by simp[hr]]
 clear hO
 rintro l' H ⟨rfl,hO⟩
 try simp only[zla,zma]
 refine zja (fun h=>?_) (fun h=>?_)
 ·rw[show zSE s=zSL from if_neg h] at hk
  refine zaa b26 ?_
  refine zoa hO (Γ.length+1) (zqa rfl) rfl rfl rfl ?_
  intro H hO
  have hO:=hO.set_r
  refine zia hO (Γ.length+1) (zqa rfl) rfl (by omega) ?_
  exact hk _ hO.left
 ·have h:SRight s∧s.st=2∧0 < s.tr:=Decidable.not_not.1 h
  have h7:s.tr≤7:=by have:=h.1; unfold SRight at this; omega
  rw[show zSE s=({ s with tr:=s.tr - 1 },0) from if_pos h] at hk
  repeat (first|refine oi ?_|refine ld hO 0 rfl rfl ?_)
  refine zua hO (Γ.length+0) (zqa rfl) rfl (show 1 < 36 by omega) (show _=slC { s with tr:=s.tr - 1 } from rfl) ?_
  intro H hO
  have hO:=hO.set_r
  refine zia hO (Γ.length+0) (zqa rfl) rfl (by omega) ?_
  refine zoa hO (Γ.length+1) (zqa rfl) rfl rfl rfl ?_
  intro H hO
  have hO:=hO.set_r
  refine zia hO (Γ.length+1) (zqa rfl) rfl (by omega) ?_
  exact hk _ hO.left
theorem zkv(hO:St H Γ)(hk:∀ H',St H' Γ→K (slR (zSE s)) H'):wCall P zAm [agg (slC s)] H K:=by
 apply zqz; unfold zpz
 refine zxa hO ?_
 intro p H hO
 rw[zGE]
 refine zxa hO ?_
 intro q H hO
 rw[List.append_assoc] at hO
 refine zwa (fun l' H'=>l'=[ptr p 0,ptr q 0,.bool (decide ¬(SRight s∧s.st=2∧0 < s.tr))]∧St H' (Γ++[(p,⟨slC s,true⟩),(q,⟨slC (slz 0),true⟩)])) ?_ ?_
 ·refine zia hO (Γ.length+0) (zqa rfl) rfl (by omega) ?_
  refine zCb hO ?_
  intro H hO
  by_cases hr:SRight s
  ·rw[decide_eq_true hr]
   repeat (first|refine oi ?_|refine wf' ?_|refine ld hO 0 rfl rfl ?_)
   by_cases h2:s.st=2
   ·repeat (first|refine oi ?_|refine wn ?_|refine ld hO 0 rfl rfl ?_)
    refine⟨?_,hO⟩
    have h0:0≤s.tr:=by unfold SRight at hr; omega
    rw[show (decide ¬(SRight s∧s.st=2∧0 < s.tr))=decide (s.tr < 1) from decide_eq_decide.2 ⟨fun h=>by have:¬ 0 < s.tr:=fun h3=>h ⟨hr,h2,h3⟩; omega,fun h h3=>by omega⟩]
   ·repeat (first|refine oi ?_|refine wy ?_)
    refine⟨?_,hO⟩
    rw[decide_eq_true (show ¬(SRight s∧s.st=2∧0 < s.tr) from fun h=>h2 h.2.1)]
  ·rw[decide_eq_false hr]
   repeat (first|refine oi ?_|refine wt ?_)
   refine⟨?_,hO⟩
   rw[show (decide ¬(SRight s∧s.st=2∧0 < s.tr))=true by simp[hr]]
 clear hO
 rintro l' H ⟨rfl,hO⟩
 try simp only[zla,zma]
 refine zja (fun h=>?_) (fun h=>?_)
 ·rw[show zSE s=zSL from if_neg h] at hk
  refine zaa b26 ?_
  refine zoa hO (Γ.length+1) (zqa rfl) rfl rfl rfl ?_
  intro H hO
  have hO:=hO.set_r
  refine zia hO (Γ.length+1) (zqa rfl) rfl (by omega) ?_
  exact hk _ hO.left
 ·have h:SRight s∧s.st=2∧0 < s.tr:=Decidable.not_not.1 h
  have h7:s.tr≤7:=by have:=h.1; unfold SRight at this; omega
  rw[show zSE s=({ s with tr:=s.tr - 1 },0) from if_pos h] at hk
  repeat (first|refine oi ?_|refine ld hO 0 rfl rfl ?_)
  refine zua hO (Γ.length+0) (zqa rfl) rfl (show 1 < 36 by omega) (show _=slC { s with tr:=s.tr - 1 } from rfl) ?_
  intro H hO
  have hO:=hO.set_r
  refine zia hO (Γ.length+0) (zqa rfl) rfl (by omega) ?_
  refine zoa hO (Γ.length+1) (zqa rfl) rfl rfl rfl ?_
  intro H hO
  have hO:=hO.set_r
  refine zia hO (Γ.length+1) (zqa rfl) rfl (by omega) ?_
  exact hk _ hO.left
end
variable{H:Heap}{Γ:List (Nat × Blk)}{K:VH}
section
variable{t:Tb}
theorem b60(t:Tb):(zAa P 127).f [(0,agg (tbC t))]=some (agg (tbC t)):=by kernel_rfl
theorem zlv(hO:St H Γ)(hk:∀ H',St H' Γ→K (.tuple [agg (tbC t),.bool (decide (TRight t))].toArray) H'):wCall P zym [agg (tbC t)] H K:=by
 apply zez; unfold zdz
 refine zxa hO ?_
 intro p H hO
 rw[zzO]
 refine zxa hO ?_
 intro q H hO
 rw[List.append_assoc] at hO
 refine zia hO (Γ.length+0) (zqa rfl) rfl (by omega) ?_
 refine zaa (b60 t) ?_
 refine zia hO (Γ.length+0) (zqa rfl) rfl (by omega) ?_
 refine zad hO ?_
 intro H' hO'
 refine⟨zmb hO (Γ.length+0) (zqa rfl) hO' (Γ.length+0) (zqa rfl) (zeA t),?_⟩
 refine zoa hO' (Γ.length+1) (zqa rfl) rfl rfl rfl ?_
 intro H hO
 have hO:=hO.set_r
 refine zia hO (Γ.length+1) (zqa rfl) rfl (by omega) ?_
 exact hk _ hO.left
theorem zju(hO:St H Γ)(ha:Ix t.act)(hk:∀ H',St H' Γ→K (int (1 - t.act)) H'):wCall P zwf [agg (tbC t)] H K:=by
 apply zCn; unfold zkk
 refine zxa hO ?_
 intro p H hO
 unfold Ix at ha
 repeat (first|refine oi ?_|refine ld hO 0 rfl rfl ?_)
 exact hk _ hO.left
theorem zNq{x y:Int}(hO:St H Γ)(hx:Ix x)(hk:∀ H',St H' Γ→K (.bool (decide ((t.sl x).st=y))) H'):wCall P zJf [agg (tbC t),int x,int y] H K:=by
 apply zWs; unfold zWp
 refine zxa hO ?_
 intro p H hO
 have hx':=hx
 unfold Ix at hx'
 repeat refine oi ?_
 refine zdC (t:=t) (x:=x) hO (Γ.length+0) (zqa rfl) hx (by omega) ?_
 repeat refine oi ?_
 exact hk _ hO.left
theorem b73(a b:Int):(zAa P 22).f [(0,int a),(1,int b)]=some (agg [int a,int b]):=by kernel_rfl
theorem zmv(hO:St H Γ)(ha:Ix t.act)(hk:∀ H',St H' Γ→K (int (zSm t)) H'):wCall P zbe [agg (tbC t)] H K:=by
 apply zap; unfold zPl
 refine zxa hO ?_
 intro p H hO
 have ha':=ha
 unfold Ix at ha'
 repeat (first|refine oi ?_|refine ld hO 0 rfl rfl ?_)
 refine zia hO (Γ.length+0) (zqa rfl) rfl (by omega) ?_
 refine zju hO ha ?_
 intro H' hO'
 refine⟨zmb hO (Γ.length+0) (zqa rfl) hO' (Γ.length+0) (zqa rfl) (zeA t),?_⟩
 refine zaa (b73 _ _) ?_
 have e0:∀ a b:Value,zWr 2 1 (zpu P 3).f (agg [a,b]) (int 0)=some a:=fun a b=>by kernel_rfl
 have e1:∀ a b:Value,zWr 2 1 (zpu P 3).f (agg [a,b]) (int 1)=some b:=fun a b=>by kernel_rfl
 refine zjk (fun k l' H''=>St H'' (Γ++[(p,⟨tbC t,true⟩)])∧∃ i:Nat,k=2 - i∧l'=[ptr p 0,int 0,agg [int t.act,int (1 - t.act)],int i]∧(i=0∨(i=1∧¬ zbh (t.sl t.act))∨(i=2∧¬ zbh (t.sl t.act)∧¬ zbh (t.sl (1 - t.act))))) _ _ ?_ 2 _ _ ⟨hO',0,rfl,rfl,.inl rfl⟩
 rintro k l' H'' ⟨hO,i,rfl,rfl,hc⟩
 unfold zfi
 try simp only[zla,zma]
 rcases hc with rfl|⟨rfl,h1⟩|⟨rfl,h1,h2⟩
 ·repeat (first|refine oi ?_|refine wy ?_)
  refine zaa (e0 _ _) ?_
  repeat refine oi ?_
  refine zYc (t:=t) (x:=t.act) hO (Γ.length+0) (zqa rfl) ha (by omega) ?_
  refine zCh hO ?_
  intro H hO
  refine zja (fun h=>?_) (fun h=>?_)
  ·try simp only[zla,zma]
   rw[show zSm t=t.act from if_pos h] at hk
   exact hk _ hO.left
  ·repeat refine oi ?_
   exact⟨_,by omega,hO,1,rfl,rfl,.inr (.inl ⟨rfl,h⟩)⟩
 ·repeat (first|refine oi ?_|refine wy ?_)
  refine zaa (e1 _ _) ?_
  repeat refine oi ?_
  refine zYc (t:=t) (x:=1 - t.act) hO (Γ.length+0) (zqa rfl) ha.flip (by omega) ?_
  refine zCh hO ?_
  intro H hO
  refine zja (fun h=>?_) (fun h=>?_)
  ·try simp only[zla,zma]
   rw[show zSm t=1 - t.act by unfold zSm; rw[if_neg h1,if_pos h]] at hk
   exact hk _ hO.left
  ·repeat refine oi ?_
   exact⟨_,by omega,hO,2,rfl,rfl,.inr (.inr ⟨rfl,h1,h⟩)⟩
 ·repeat (first|refine oi ?_|refine wn ?_|refine cy ?_)
  rw[show zSm t=-1 by unfold zSm; rw[if_neg h1,if_neg h2]] at hk
  exact hk _ hO.left
end
variable{H:Heap}{Γ:List (Nat × Blk)}{K:VH}
section
variable{t:Tb}
theorem zku(hO:St H Γ)(hk:∀ H',St H' Γ→K (int (zmj t)) H'):wCall P zdk [agg (tbC t)] H K:=by
 apply zkx; unfold zPv
 refine zxa hO ?_
 intro p H hO
 refine zia hO (Γ.length+0) (zqa rfl) rfl (by omega) ?_
 refine zbd hO ?_
 intro H hO
 by_cases h:TRight t
 ·rw[decide_eq_true h]
  rw[show zmj t=zSm t from if_pos h] at hk
  have ha:=h.2.2.1
  have ha':=ha
  unfold Ix at ha'
  repeat (first|refine oi ?_|refine wf' ?_|refine ld hO 0 rfl rfl ?_)
  refine zYc (t:=t) (x:=t.act) hO (Γ.length+0) (zqa rfl) ha (by omega) ?_
  refine zgh hO ?_
  intro H hO
  refine zja (fun h1=>?_) (fun h1=>?_)
  ·rw[show zSm t=t.act from if_pos h1] at hk
   repeat (first|refine oi ?_|refine ld hO 0 rfl rfl ?_)
   exact hk _ hO.left
  ·repeat (first|refine oi ?_|refine ld hO 0 rfl rfl ?_)
   refine zYc (t:=t) (x:=1 - t.act) hO (Γ.length+0) (zqa rfl) ha.flip (by omega) ?_
   refine zgh hO ?_
   intro H hO
   refine zja (fun h2=>?_) (fun h2=>?_)
   ·rw[show zSm t=1 - t.act by unfold zSm; rw[if_neg h1,if_pos h2]] at hk
    repeat (first|refine oi ?_|refine ld hO 0 rfl rfl ?_)
    exact hk _ hO.left
   ·rw[show zSm t=-1 by unfold zSm; rw[if_neg h1,if_neg h2]] at hk
    exact hk _ hO.left
 ·rw[decide_eq_false h]
  repeat (first|refine oi ?_|refine wt ?_)
  rw[show zmj t=-1 from if_neg h] at hk
  exact hk _ hO.left
theorem zwo{i:Int}{s:Sl}(hO:St H Γ)(hk:∀ H',St H' Γ→K (agg (chC (zgL i s))) H'):wCall P zal [int i,agg (slC s)] H K:=by
 apply zBB; unfold zjD
 refine zxa hO ?_
 intro p H hO
 rw[zRE]
 refine zxa hO ?_
 intro q H hO
 rw[List.append_assoc] at hO
 refine zia hO (Γ.length+0) (zqa rfl) rfl (by omega) ?_
 refine zaa (zWN i s) ?_
 refine zoa hO (Γ.length+1) (zqa rfl) rfl rfl rfl ?_
 intro H hO
 have hO:=hO.set_r
 refine zia hO (Γ.length+1) (zqa rfl) rfl (by omega) ?_
 exact hk _ hO.left
theorem zwr{i:Int}(hO:St H Γ)(hk:∀ H',St H' Γ→K (agg (chC (zAN i))) H'):wCall P zOi [int i] H K:=by
 apply zCu; unfold zXs
 rw[zRE]
 refine zxa hO ?_
 intro q H hO
 refine zaa (ztO i) ?_
 refine zoa hO (Γ.length+0) (zqa rfl) rfl rfl rfl ?_
 intro H hO
 have hO:=hO.set_r
 refine zia hO (Γ.length+0) (zqa rfl) rfl (by omega) ?_
 exact hk _ hO.left
end
variable{H:Heap}{Γ:List (Nat × Blk)}{K:VH}
section
variable{t:Tb}
def lA(t:Tb):List Ch:=if (t.sl t.act).st=2 then [zgL t.act (zKA (t.sl t.act)).1] else []
def lB(t:Tb)(p:Int):List Ch:=if p≠t.act then lA t++[zAN p] else []
def lC(t:Tb)(p:Int):List Ch:=if (t.sl p).st=2 then lB t p++[zgL p (zSE (t.sl p)).1] else lB t p
def zhh(t:Tb):List Ch:=if zmj t=-1 then [] else lC t (zmj t)++[zVN (zmj t)]
theorem zHH:(lA t).length≤1:=by unfold lA; split <;> simp
theorem zIH{p:Int}:(lB t p).length≤2:=by have:=zHH (t:=t); unfold lB; split <;> simp; omega
theorem zJH{p:Int}:(lC t p).length≤3:=by have:=zIH (t:=t) (p:=p); unfold lC; split <;> simp <;> omega
theorem zCA:(zhh t).length≤4:=by have:=zJH (t:=t) (p:=zmj t); unfold zhh; split <;> simp; omega
theorem znv(hO:St H Γ)(hk:zDM Γ K (zmj t) (zhh t)):wCall P zxm [agg (tbC t)] H K:=by
 apply zaz; unfold zZy
 refine zxa hO ?_
 intro p H hO
 refine zia hO (Γ.length+0) (zqa rfl) rfl (by omega) ?_
 refine zlv hO ?_
 intro H hO
 refine zaa zRh ?_
 refine zaa zSh ?_
 rw[zzO]
 refine zxa hO ?_
 intro q H hO
 rw[List.append_assoc] at hO
 refine zoa hO (Γ.length+1) (zqa rfl) rfl rfl rfl ?_
 intro H hO
 have hO:St H (Γ++[(p,⟨tbC t,true⟩),(q,⟨tbC t,true⟩)]):=hO.set_r
 refine zwa (fun l' H'=>l'=[ptr q 0,int (zmj t)]∧St H' (Γ++[(p,⟨tbC t,true⟩),(q,⟨tbC t,true⟩)])) ?_ ?_
 ·by_cases h:TRight t
  ·rw[decide_eq_true h,zQw]
   refine zia hO (Γ.length+1) (zqa rfl) rfl (by omega) ?_
   refine zmv hO h.2.2.1 ?_
   intro H hO
   rw[show zmj t=zSm t from if_pos h]
   exact⟨rfl,hO⟩
  ·rw[decide_eq_false h,zzs,show zmj t=-1 from if_neg h]
   exact⟨rfl,hO⟩
 clear hO
 rintro l' H ⟨rfl,hO⟩
 try simp only[zla,zma]
 repeat refine oi ?_
 refine zja (fun h=>?_) (fun h=>?_)
 ·unfold zhh at hk
  rw[if_pos h,h] at hk
  exact hk _ zya (by show St H (Γ++[]); rw[List.append_nil]; exact hO.left) Own.nil
 unfold zhh at hk
 rw[if_neg h] at hk
 obtain⟨hr,hp⟩:=zcH h
 have ha:=hr.2.2.1
 have hab:=ha.bd
 have hpb:=hp.bd
 generalize zmj t=x at *
 refine zwa (fun l' H'=>∃ v,l'=[ptr q 0,int x,v]∧Own 40 v (lB t x).length (chs (lB t x))∧St H' ((Γ++[(p,⟨tbC t,true⟩),(q,⟨tbC t,true⟩)])++zGa v (chs (lB t x)))) ?_ ?_
 ·repeat (first|refine oi ?_|refine ld hO 1 rfl rfl ?_)
  refine zja (fun h1=>?_) (fun h1=>?_)
  ·unfold lB
   rw[if_pos h1]
   refine zwa (fun l' H'=>∃ v,l'=[ptr q 0,int x,v]∧Own 40 v (lA t).length (chs (lA t))∧St H' ((Γ++[(p,⟨tbC t,true⟩),(q,⟨tbC t,true⟩)])++zGa v (chs (lA t)))) ?_ ?_
   ·refine zia hO (Γ.length+1) (zqa rfl) rfl (by omega) ?_
    repeat (first|refine oi ?_|refine ld hO 1 rfl rfl ?_)
    refine zNq hO ha ?_
    intro H hO
    refine zja (fun h2=>?_) (fun h2=>?_)
    ·unfold lA
     rw[if_pos h2]
     repeat (first|refine oi ?_|refine ld hO 1 rfl rfl ?_)
     refine zYc (t:=t) (x:=t.act) hO (Γ.length+1) (zqa rfl) ha (by omega) ?_
     refine zhy hO ?_
     intro H hO
     generalize zKA (t.sl t.act)=r at *
     obtain⟨s',e⟩:=r
     refine zaa zRh ?_
     refine zaa zSh ?_
     rw[zGE]
     refine zxa hO ?_
     intro q2 H hO
     rw[List.append_assoc] at hO
     refine zoa hO (Γ.length+2) (zqa rfl) rfl rfl rfl ?_
     intro H hO
     have hO:=hO.set_r
     repeat (first|refine oi ?_|refine ld hO 1 rfl rfl ?_)
     refine zia hO (Γ.length+2) (zqa rfl) rfl (by omega) ?_
     refine zwo hO ?_
     intro H hO
     refine zEa hO (bs1 _ _) ?_
     intro q3 H hO
     refine zVx hO ?_
     intro H v hO hown
     refine⟨v,rfl,hown,?_⟩
     have hO:St H (((Γ++[(p,⟨tbC t,true⟩),(q,⟨tbC t,true⟩)])++[(q2,⟨slC s',true⟩)])++zGa v (chs [zgL t.act s'])):=by rw[List.append_assoc Γ]; exact hO
     exact St.mid hO
    ·unfold lA
     rw[if_neg h2]
     exact⟨zya,rfl,Own.nil,by rw[show zGa zya (chs [])=[] from rfl,List.append_nil]; exact hO⟩
   clear hO
   rintro l' H ⟨v,rfl,hown,hO⟩
   try simp only[zla,zma]
   refine zwr hO ?_
   intro H hO
   refine zEa hO (bs1 _ _) ?_
   intro q4 H hO
   refine zYd hO hown (by have:=zHH (t:=t); omega) ?_
   intro H v hO hown
   exact⟨v,rfl,hown,hO⟩
  ·unfold lB
   rw[if_neg h1]
   exact⟨zya,rfl,Own.nil,by rw[show zGa zya (chs [])=[] from rfl,List.append_nil]; exact hO⟩
 clear hO
 rintro l' H ⟨v,rfl,hown,hO⟩
 try simp only[zla,zma]
 refine zwa (fun l' H'=>∃ v,l'=[int x,v]∧Own 40 v (lC t x).length (chs (lC t x))∧St H' ((Γ++[(p,⟨tbC t,true⟩),(q,⟨tbC t,true⟩)])++zGa v (chs (lC t x)))) ?_ ?_
 ·refine zia hO (Γ.length+1) (zza (zqa rfl)) rfl (by omega) ?_
  refine zNq hO hp ?_
  intro H hO
  refine zja (fun h2=>?_) (fun h2=>?_)
  ·unfold lC
   rw[if_pos h2]
   repeat refine oi ?_
   refine zYc (t:=t) (x:=x) hO (Γ.length+1) (zza (zqa rfl)) hp (by omega) ?_
   refine ziy hO ?_
   intro H hO
   generalize zSE (t.sl x)=r at *
   obtain⟨s',e⟩:=r
   refine zaa zRh ?_
   refine zaa zSh ?_
   rw[zGE]
   refine zxa hO ?_
   intro q2 H hO
   refine zoa hO (((Γ++[(p,(⟨tbC t,true⟩:Blk)),(q,⟨tbC t,true⟩)])++zGa v (chs (lB t x))).length+0) (zqa rfl) rfl rfl rfl ?_
   intro H hO
   have hO:=hO.set_r
   refine zia hO (((Γ++[(p,(⟨tbC t,true⟩:Blk)),(q,⟨tbC t,true⟩)])++zGa v (chs (lB t x))).length+0) (zqa rfl) rfl (by omega) ?_
   refine zwo hO ?_
   intro H hO
   refine zEa hO (bs1 _ _) ?_
   intro q3 H hO
   refine zYd (St.mid hO) hown (by have:=zIH (t:=t) (p:=x); omega) ?_
   intro H v hO hown
   exact⟨v,rfl,hown,hO⟩
  ·unfold lC
   rw[if_neg h2]
   exact⟨v,rfl,hown,hO⟩
 clear hO
 rintro l' H ⟨v,rfl,hown,hO⟩
 try simp only[zla,zma]
 refine zaa (zuO x) ?_
 refine zEa hO (bs1 _ _) ?_
 intro q3 H hO
 refine zYd hO hown (by have:=zJH (t:=t) (p:=x); omega) ?_
 intro H v hO hown
 exact hk _ v (St.mid hO) hown
theorem zEL{s:Sl}(h:SRight s)(h2:s.st=2):(zKA s).2=0:=by unfold zKA; rw[if_pos ⟨h,.inl h2⟩]
theorem zlu(hO:St H Γ)(hk:zDM Γ K (zmj t) (zhh t)):wCall P zck [agg (tbC t)] H K:=by
 apply zhx; unfold zMv
 refine zxa hO ?_
 intro p H hO
 refine zia hO (Γ.length+0) (zqa rfl) rfl (by omega) ?_
 refine zku hO ?_
 intro H hO
 refine zEa hO (bs0 _) ?_
 intro p0 H hO
 have own0:Own 40 (sl p0 0 0 81) ([]:List Ch).length (chs []):=.inr ⟨p0,.inr rfl,rfl⟩
 have hO:St H ((Γ++[(p,⟨tbC t,true⟩)])++zGa (sl p0 0 0 81) (chs [])):=hO
 repeat refine oi ?_
 refine zja (fun h=>?_) (fun h=>?_)
 ·unfold zhh at hk
  rw[if_pos h,h] at hk
  rw[h]
  exact hk _ _ (St.mid hO) own0
 unfold zhh at hk
 rw[if_neg h] at hk
 obtain⟨hr,hp⟩:=zcH h
 have ha:=hr.2.2.1
 have hab:=ha.bd
 have hpb:=hp.bd
 generalize zmj t=x at *
 refine zwa (fun l' H'=>∃ v,l'=[ptr p 0,int x,v]∧Own 40 v (lB t x).length (chs (lB t x))∧St H' ((Γ++[(p,⟨tbC t,true⟩)])++zGa v (chs (lB t x)))) ?_ ?_
 ·repeat refine oi ?_
  refine zha hO (Γ.length+0) (zza (zqa rfl)) rfl ?_
  repeat refine oi ?_
  refine zja (fun h1=>?_) (fun h1=>?_)
  ·unfold lB
   rw[if_pos h1]
   repeat refine oi ?_
   refine zha hO (Γ.length+0) (zza (zqa rfl)) rfl ?_
   repeat refine oi ?_
   refine zYc (t:=t) (x:=t.act) hO (Γ.length+0) (zza (zqa rfl)) ha (by omega) ?_
   refine zjv hO ?_
   intro H hO
   have hz:(t.sl t.act).st=2→(zKA (t.sl t.act)).2=0:=zEL hr.sl
   have hlA:lA t=if (t.sl t.act).st=2 then [zgL t.act (zKA (t.sl t.act)).1] else []:=rfl
   generalize zKA (t.sl t.act)=r at *
   obtain⟨s',e⟩:=r
   refine zaa zRh ?_
   refine zaa zSh ?_
   rw[zGE]
   refine zxa hO ?_
   intro q2 H hO
   refine zoa hO (((Γ++[(p,(⟨tbC t,true⟩:Blk))])++zGa (sl p0 0 0 81) (chs [])).length+0) (zqa rfl) rfl rfl rfl ?_
   intro H hO
   have hO:=hO.set_r
   refine zwa (fun l' H'=>∃ v,l'=[ptr p 0,int x,v]∧Own 40 v (lA t).length (chs (lA t))∧St H' ((Γ++[(p,⟨tbC t,true⟩)])++zGa v (chs (lA t)))) ?_ ?_
   ·refine zwa (fun l' H'=>l'=[ptr p 0,int x,sl p0 0 0 81,ptr q2 0,.bool (decide ((t.sl t.act).st=2))]∧H'=H) ?_ ?_
    ·repeat refine oi ?_
     refine zha hO (Γ.length+0) (zza (zza (zqa rfl))) rfl ?_
     repeat refine oi ?_
     refine zdC (t:=t) (x:=t.act) hO (Γ.length+0) (zza (zza (zqa rfl))) ha (by omega) ?_
     repeat refine oi ?_
     by_cases h2:(t.sl t.act).st=2
     ·have hz:e=0:=hz h2
      repeat (first|refine oi ?_|refine wy ?_)
      rw[decide_eq_true h2,decide_eq_true hz]
      exact⟨rfl,rfl⟩
     ·repeat (first|refine oi ?_|refine wn ?_)
      rw[decide_eq_false h2]
      exact⟨rfl,rfl⟩
    rintro l' H3 ⟨rfl,e3⟩
    rw[e3]
    clear e3
    try simp only[zla,zma]
    refine zja (fun h2=>?_) (fun h2=>?_)
    ·rw[if_pos h2] at hlA
     rw[hlA]
     repeat refine oi ?_
     refine zha hO (Γ.length+0) (zza (zza (zqa rfl))) rfl ?_
     refine zia hO (((Γ++[(p,(⟨tbC t,true⟩:Blk))])++zGa (sl p0 0 0 81) (chs [])).length+0) (zqa rfl) rfl (by omega) ?_
     refine zaa (zWN _ _) ?_
     refine zEa hO (bs1 _ _) ?_
     intro q3 H hO
     refine zYd (l:=[]) (St.mid hO) own0 (by simp) ?_
     intro H v hO hown
     exact⟨v,rfl,hown,hO⟩
    ·rw[if_neg h2] at hlA
     rw[hlA]
     exact⟨_,rfl,own0,hO.left⟩
   clear hO
   rintro l' H ⟨v,rfl,hown,hO⟩
   try simp only[zla,zma]
   refine zaa (ztO x) ?_
   refine zEa hO (bs1 _ _) ?_
   intro q4 H hO
   refine zYd hO hown (by have:=zHH (t:=t); omega) ?_
   intro H v hO hown
   exact⟨v,rfl,hown,hO⟩
  ·unfold lB
   rw[if_neg h1]
   exact⟨_,rfl,own0,hO⟩
 clear hO
 rintro l' H ⟨v,rfl,hown,hO⟩
 try simp only[zla,zma]
 refine zwa (fun l' H'=>∃ v,l'=[int x,v]∧Own 40 v (lC t x).length (chs (lC t x))∧St H' ((Γ++[(p,⟨tbC t,true⟩)])++zGa v (chs (lC t x)))) ?_ ?_
 ·repeat refine oi ?_
  refine zdC (t:=t) (x:=x) hO (Γ.length+0) (zza (zqa rfl)) hp (by omega) ?_
  repeat refine oi ?_
  refine zja (fun h2=>?_) (fun h2=>?_)
  ·unfold lC
   rw[if_pos h2]
   repeat refine oi ?_
   refine zYc (t:=t) (x:=x) hO (Γ.length+0) (zza (zqa rfl)) hp (by omega) ?_
   refine zkv hO ?_
   intro H hO
   generalize zSE (t.sl x)=r at *
   obtain⟨s',e⟩:=r
   refine zaa zRh ?_
   refine zaa zSh ?_
   rw[zGE]
   refine zxa hO ?_
   intro q2 H hO
   refine zoa hO (((Γ++[(p,(⟨tbC t,true⟩:Blk))])++zGa v (chs (lB t x))).length+0) (zqa rfl) rfl rfl rfl ?_
   intro H hO
   have hO:=hO.set_r
   refine zia hO (((Γ++[(p,(⟨tbC t,true⟩:Blk))])++zGa v (chs (lB t x))).length+0) (zqa rfl) rfl (by omega) ?_
   refine zaa (zWN _ _) ?_
   refine zEa hO (bs1 _ _) ?_
   intro q3 H hO
   refine zYd (St.mid hO) hown (by have:=zIH (t:=t) (p:=x); omega) ?_
   intro H v hO hown
   exact⟨v,rfl,hown,hO⟩
  ·unfold lC
   rw[if_neg h2]
   exact⟨v,rfl,hown,hO⟩
 clear hO
 rintro l' H ⟨v,rfl,hown,hO⟩
 try simp only[zla,zma]
 refine zaa (zuO x) ?_
 refine zEa hO (bs1 _ _) ?_
 intro q3 H hO
 refine zYd hO hown (by have:=zJH (t:=t) (p:=x); omega) ?_
 intro H v hO hown
 exact hk _ v (St.mid hO) hown
end
end J
set_option maxRecDepth 100000
namespace J
open Go Go.Ab
variable{H:Heap}{Γ Γ0 Γ2 Δ G:List (Nat × Blk)}{K:VH}{v w x:Value}{xs ys bs body:List Int}{j p qj qs A B k:Nat}{e:Int}{m m' m2:Mp}{part pos:Int}{M:Rm}{jn:Jn}{t next first:Tb}{l:List Ch}{L:Mloc}{ps pj:Nat}
theorem zmO(h:TW t){i:Int}:∀ j,0≤(t.sl i).dg j∧(t.sl i).dg j≤255:=by
 unfold Tb.sl; split
 ·exact h.a
 ·exact h.b
theorem zDA{i:Int}:∀ j,0≤(slz i).dg j∧(slz i).dg j≤255:=fun j=>by show (0:Int)≤0∧(0:Int)≤255; omega
theorem zKH{i:Int}{s:Sl}(h:∀ j,0≤s.dg j∧s.dg j≤255):CBy (zgL i s):=⟨h,by show (0:Int)≤0; omega⟩
theorem zFL{i:Int}:CBy (zAN i):=⟨zDA,by show (0:Int)≤0; omega⟩
theorem zGL{i:Int}:CBy (zVN i):=⟨zDA,by show (0:Int)≤0; omega⟩
theorem zHL{s:Sl}:∀ j,0≤(zKA s).1.dg j∧(zKA s).1.dg j≤255:=by
 unfold zKA; split
 ·exact zDA
 ·exact zDA
theorem zIL{s:Sl}(h:∀ j,0≤s.dg j∧s.dg j≤255):∀ j,0≤(zSE s).1.dg j∧(zSE s).1.dg j≤255:=by
 unfold zSE; split
 ·exact h
 ·exact zDA
theorem zWm(h:TW t):∀ c ∈ zhh t,CBy c:=by
 have hA:∀ c ∈ lA t,CBy c:=by
  unfold lA; split
  ·intro c hc; rw[List.mem_singleton.1 hc]; exact zKH zHL
  ·intro c hc; cases hc
 have hB:∀ p,∀ c ∈ lB t p,CBy c:=by
  intro p; unfold lB; split
  ·intro c hc
   rcases List.mem_append.1 hc with hc|hc
   ·exact hA c hc
   ·rw[List.mem_singleton.1 hc]; exact zFL
  ·intro c hc; cases hc
 have hC:∀ p,∀ c ∈ lC t p,CBy c:=by
  intro p; unfold lC; split
  ·intro c hc
   rcases List.mem_append.1 hc with hc|hc
   ·exact hB p c hc
   ·rw[List.mem_singleton.1 hc]; exact zKH (zIL (zmO h))
  ·exact hB p
 unfold zhh; split
 ·intro c hc; cases hc
 ·intro c hc
  rcases List.mem_append.1 hc with hc|hc
  ·exact hC _ c hc
  ·rw[List.mem_singleton.1 hc]; exact zGL
noncomputable def zGc(t:Tb)(jn:Jn)(m:Mp):(Tb × Jn × Mp) × Int × Int:=
 if zmj t=-1 then ((t,jn,m),-1,121)
 else (((tDo t jn m (zhh t)).1,(tDo t jn m (zhh t)).2.1,(tDo t jn m (zhh t)).2.2.1),(if (tDo t jn m (zhh t)).2.2.2=0 then zmj t else -1),(tDo t jn m (zhh t)).2.2.2)
theorem zJL(h:WI A B k t jn m):WI A B (k+1) (zGc t jn m).1.1 (zGc t jn m).1.2.1 (zGc t jn m).1.2.2:=by
 unfold zGc; split
 ·exact h.mono (by omega)
 ·exact zRO h (zWm h.tw)
theorem zmu(hw:WI A B k t jn m)(hk2:k≤50)(hO:St H (((Γ++SB ps pj t)++JB pj L.pm jn)++MW L m))(how:Mown L m)
  (hk:∀ H' Δ L',L.Eq L'→St H' ((((Γ++Δ)++SB ps pj (zGc t jn m).1.1)++JB pj L'.pm (zGc t jn m).1.2.1)++MW L' (zGc t jn m).1.2.2)→Mown L' (zGc t jn m).1.2.2→K (.tuple [int (zGc t jn m).2.1,int (zGc t jn m).2.2].toArray) H') :
  wCall P zZj [ptr ps 0] H K:=by
 apply zdx; unfold zIv
 unfold zGc at hk
 refine zXt hO (j:=Γ.length+0) (zza (zza (zqa rfl))) ?_
 clear hO
 intro H hO
 refine znv hO ?_
 clear hO
 intro H v hO hv
 refine zaa zRh ?_
 refine zaa zSh ?_
 refine zaa zfb ?_
 refine zja (fun h=>?_) (fun h=>?_)
 ·rw[if_pos h] at hk
  exact hk H (zGa v (chs (zhh t))) L ⟨rfl,rfl,rfl,rfl⟩ (hO.perm (by classical exact List.perm_iff_count.2 fun _=>by simp only[List.count_append,List.count_nil,List.set_cons_zero]; omega)) how
 rw[if_neg h] at hk
 have hup:TW (zZa t (zhh t)).1:=zQr hw.tw (zWm hw.tw)
 have hO2:St H ((((Γ++zGa v (chs (zhh t)))++SB ps pj t)++JB pj L.pm jn)++MW L m):=hO.perm (by classical exact List.perm_iff_count.2 fun _=>by simp only[List.count_append,List.count_nil,List.set_cons_zero]; omega)
 clear hO
 have hl:=zCA (t:=t)
 refine zuL (N:=5000 * k) hw.ok hw.jok hw.sm (by omega) (RdC.own hv).app' (by omega) (fun c h=>(zWm hw.tw c h).2) (fun _=>hup.f) (zJD (zWm hw.tw)) (fun _=>zmH hup.a hup.b) hO2 how ?_
 clear hO2
 intro H L2 he hO hown2
 refine zaa zKa ?_
 refine zja (fun h2=>?_) (fun h2=>?_)
 ·rw[if_neg h2] at hk
  exact hk H _ L2 he hO hown2
 ·have h2:(tDo t jn m (zhh t)).2.2.2=0:=by omega
  rw[if_pos h2,h2] at hk
  exact hk H _ L2 he hO hown2
theorem zjy(hw:WI A B k t jn m)(hk2:k≤50)(hO:St H (((Γ++SB qs qj t)++QB qj M.pm jn)++RM M m))(hM:RMok M m)
  (hk:∀ H' Δ M',M.Eq M'→St H' ((((Γ++Δ)++SB qs qj (zGc t jn m).1.1)++QB qj M'.pm (zGc t jn m).1.2.1)++RM M' (zGc t jn m).1.2.2)→RMok M' (zGc t jn m).1.2.2→K (.tuple [int (zGc t jn m).2.1,int (zGc t jn m).2.2].toArray) H') :
  wCall P zLi [ptr qs 0] H K:=by
 apply zvu; unfold zLs
 unfold zGc at hk
 refine zaa zfa ?_
 refine zaa zga ?_
 refine zBa hO (Γ.length+0) (zza (zza (zqa rfl))) (show _=tbC t from rfl) rfl (by omega) ?_
 refine zlu hO ?_
 clear hO
 intro H v hO hv
 refine zaa zRh ?_
 refine zaa zSh ?_
 refine zaa zfb ?_
 refine zja (fun h=>?_) (fun h=>?_)
 ·rw[if_pos h] at hk
  exact hk H (zGa v (chs (zhh t))) M ⟨rfl,rfl⟩ (hO.perm (by classical exact List.perm_iff_count.2 fun _=>by simp only[List.count_append,List.count_nil,List.set_cons_zero]; omega)) hM
 rw[if_neg h] at hk
 have hup:TW (zZa t (zhh t)).1:=zQr hw.tw (zWm hw.tw)
 have hO2:St H ((((Γ++zGa v (chs (zhh t)))++SB qs qj t)++QB qj M.pm jn)++RM M m):=hO.perm (by classical exact List.perm_iff_count.2 fun _=>by simp only[List.count_append,List.count_nil,List.set_cons_zero]; omega)
 clear hO
 have hl:=zCA (t:=t)
 refine zNE (N:=5000 * k) hw.ok hw.jok hw.has hw.sm (by omega) (RdC.own hv).app' (by omega) (fun c h=>(zWm hw.tw c h).2) (fun _=>hup.f) (zJD (zWm hw.tw)) (fun _=>zmH hup.a hup.b) hM hO2 ?_
 clear hO2
 intro H M2 he hO hM2
 refine zaa zKa ?_
 refine zja (fun h2=>?_) (fun h2=>?_)
 ·rw[if_neg h2] at hk
  exact hk H _ M2 he hO hM2
 ·have h2:(tDo t jn m (zhh t)).2.2.2=0:=by omega
  rw[if_pos h2,h2] at hk
  exact hk H _ M2 he hO hM2
end J
set_option maxRecDepth 100000
namespace J
open Go Go.Ab
variable{H:Heap}{Γ Γ0 Γ2 Δ G:List (Nat × Blk)}{K:VH}{v w x:Value}{xs ys bs body:List Int}{j p A B k:Nat}{e:Int}{m' m2:Mp}{part pos:Int}{next first:Tb}{l:List Ch}
def RdN(Γ:List (Nat × Blk))(v:Value)(ns:List Int):Prop:=(v=zya∧ns=[])∨∃ (p c j:Nat) (wr:Bool),v=sl p 0 ns.length c∧Γ[j]?=some (p,(⟨ns.map fun n=>int n,wr⟩:Blk))
theorem RdN.app{ns:List Int}(h:RdN Γ v ns):RdN (Γ++Δ) v ns:=by
 rcases h with h|⟨p,c,j,wr,h1,h2⟩
 ·exact .inl h
 ·exact .inr ⟨p,c,j,wr,h1,zza h2⟩
theorem RdN.lenSl{ns:List Int}(h:RdN Γ v ns):Ab.lenSl v H=some (int ns.length,H):=by
 rcases h with⟨rfl,rfl⟩|⟨p,c,j,wr,rfl,h2⟩ <;> rfl
theorem RdN.at{ns:List Int}(hO:St H Γ)(h:RdN Γ v ns){i:Nat}(hi:i < ns.length)(hk:K (int ns[i]) H):opP (zWa 1 v (int i)) fun t=>opW (zba t H) K:=by
 rcases h with⟨rfl,rfl⟩|⟨p,c,j,wr,rfl,h2⟩
 ·cases hi
 ·refine zaa (zHa (by omega) (by omega)) ?_
  refine zha hO j h2 (v:=int ns[i]) ?_ hk
  rw[show 0+((i:Nat):Int).toNat * 1=i by omega,List.getElem?_map,List.getElem?_eq_getElem hi]; rfl
structure LB (A B y:Nat) (ns ks:List Int) (budv keptv:Value) (Γ0:List (Nat × Blk)) (p4:Nat) (first:Tb) (pm qm:Nat) (t:Tb) (jn:Jn) (m:Mp) (L:Mloc) (M:Rm):Prop where
 own:Mown L m
 rok:RMok M m
 nr:RdN Γ0 budv ns
 kr:RdB Γ0 keptv ks
 fj:∃ j:Nat,Γ0[j]?=some (p4,(⟨tbC first,true⟩:Blk))
 w:WI A B y t jn m
 hL:L.pm=pm
 hM:M.pm=qm
set_option maxHeartbeats 16000000 in
theorem zLH{ns ks:List Int}{budv keptv:Value}{p4 pm qm n:Nat}{t:Tb}{jn:Jn}{m:Mp}{L:Mloc}{M:Rm}{Qx:LX}{Qr:LN}
  (hA:A≤30) (hB:B≤30) (hf:TRight first) (htw:TW first) (hn:n=ns.length) (hn40:n≤30) (hnb:∀ x ∈ ns,x≤9223372036854775807) (hkb:By ks)
  (hO:St H ((G++MW L m)++RM M m)) (hls:LB A B 0 ns ks budv keptv G p4 first pm qm t jn m L M)
  (hx:∀ H',Qx 0 [.bool false] H') :
  zdb P true 153 zge 4 [.bool false,ptr p4 0,keptv,ptr pm 0,ptr qm 0,budv,int n,int 0] H Qx Qr:=by
 subst hn
 refine zbj (fun k l' H'=>∃ (y:Nat) (Γ0:List (Nat × Blk)) (t:Tb) (jn:Jn) (m:Mp) (L:Mloc) (M:Rm),y≤ns.length∧k=ns.length - y∧l'=[.bool false,ptr p4 0,keptv,ptr pm 0,ptr qm 0,budv,int ns.length,int y]∧St H' ((Γ0++MW L m)++RM M m)∧LB A B y ns ks budv keptv Γ0 p4 first pm qm t jn m L M) _ _ ?_ ns.length _ _ ⟨0,G,t,jn,m,L,M,by omega,by omega,rfl,hO,hls⟩
 clear hO hls t jn m L M
 rintro k l' H ⟨y,Γ0,t,jn,m,L,M,hy,rfl,rfl,hO,ls⟩
 unfold zSg
 try simp only[zla,zma]
 refine zaa zMa ?_
 refine zja (fun h=>?_) (fun h=>?_)
 rotate_left
 ·exact hx _
 have hyl:y < ns.length:=by omega
 obtain⟨a,ha⟩:∃ a,a=ns[y]:=⟨_,rfl⟩
 have han:a≤9223372036854775807:=by rw[ha]; exact hnb _ (List.getElem_mem hyl)
 refine RdN.at (ns:=ns) hO ls.nr.app.app hyl ?_
 rw[← ha]
 have hadd:(zsa P .add 3 true).f (int y) (.int .i64 1)=some (int ((y+1:Nat):Int)):=by rw[show ((y+1:Nat):Int)=(y:Int)+1 by omega]; exact zxb (by omega) (by omega)
 obtain⟨hown,hrok,hnr,hkr,⟨j4,hj4⟩,hw,hLp,hMp⟩:=ls
 rw[← hLp,← hMp]
 have hsl:=zaH hw.two hA hB
 have hsb:=zGD (a:=0) (b:=1) hw.bd
 have hsx:=zkN hw.two hA hB hw.bd
 refine zia hO j4 (zza (zza hj4)) rfl (by omega) ?_
 have hO2:St H ((Γ0++RM M m)++MW L m):=hO.perm (by classical exact List.perm_iff_count.2 fun _=>by simp only[List.count_append,List.count_nil,List.set_cons_zero]; omega)
 clear hO
 refine zHE hw.ok (zGk hw.bd) (zGk hw.bd) hsb (by omega) hsx hf hO2 ?_
 clear hO2
 intro H Δ ps pj hO
 refine zaa zRh ?_
 refine zaa zSh ?_
 refine zia hO j4 (zza (zza (zza (zza (zza hj4))))) rfl (by omega) ?_
 have hO2:St H (((Γ0++Δ)++PW ps pj L (zQd (zvc m 0 1).bodies first) (zRm m 0 1) m)++RM M m):=hO.perm (by classical exact List.perm_iff_count.2 fun _=>by simp only[List.count_append,List.count_nil,List.set_cons_zero]; omega)
 clear hO
 refine zAA hw.ok (hw.sm.mono (by omega)) (zGk hw.bd) (zGk hw.bd) hsb (by omega) hsx hrok hO2 ?_
 clear hO2
 intro H Δ2 qs qj hO
 refine zaa (zlO _ _) ?_
 refine zFe rfl ?_
 have hw2:=zjN hw htw
 clear hw hsl hsb hsx
 generalize zQd (zvc m 0 1).bodies first=t' at *
 generalize zRm m 0 1=jn' at *
 have hO2:St H (((((Γ0++Δ)++Δ2)++QW qs qj M t' jn' m)++(SB ps pj t'++JB pj L.pm jn'))++MW L m):=hO.perm (by classical exact List.perm_iff_count.2 fun _=>by simp only[List.count_append,List.count_nil,List.set_cons_zero]; omega)
 clear hO
 have hnr2:RdN ((Γ0++Δ)++Δ2) budv ns:=hnr.app.app
 have hkr2:RdB ((Γ0++Δ)++Δ2) keptv ks:=hkr.app.app
 have hj5:((Γ0++Δ)++Δ2)[j4]?=some (p4,(⟨tbC first,true⟩:Blk)):=zza (zza hj4)
 clear hnr hkr hj4
 generalize (Γ0++Δ)++Δ2=Γ1 at *
 refine zFq hO2 ?_
 refine zwC (n:=a) hO2 ?_
 clear hO2
 intro H hO
 have hO2:St H (((Γ1++PW ps pj L t' jn' { m with d:=m.d.limit a })++(SB qs qj t'++QB qj M.pm jn'))++RM M m):=hO.perm (by classical exact List.perm_iff_count.2 fun _=>by simp only[List.count_append,List.count_nil,List.set_cons_zero]; omega)
 clear hO
 refine zaa zfa ?_
 refine zaa zga ?_
 refine zha hO2 (_+0) (zqa rfl) (v:=ptr M.r.pd 0) rfl ?_
 refine zGH (n:=a) hrok hO2 ?_
 clear hO2 hrok
 intro H M2 he hO hrok
 rw[← he.m] at hO
 have hMq:M2.pm=M.pm:=he.m
 rw[← hMq]
 clear he
 have hw3:=zDL hw2 han
 replace hown:Mown L { m with d:=m.d.limit a }:=⟨hown.d,hown.o⟩
 clear hw2
 generalize ({ m with d:=m.d.limit a }:Mp)=m1 at *
 have hO2:St H ((((Γ1++QW qs qj M2 t' jn' m1)++SB ps pj t')++JB pj L.pm jn')++MW L m1):=hO.perm (by classical exact List.perm_iff_count.2 fun _=>by simp only[List.count_append,List.count_nil,List.set_cons_zero]; omega)
 clear hO
 refine zmu hw3 (by omega) hO2 hown ?_
 clear hO2 hown
 intro H Δ L2 he hO hown
 refine zaa zRh ?_
 refine zaa zSh ?_
 have hLq:L2.pm=L.pm:=he.m
 rw[← hLq]
 clear he
 have hO2:St H (((((Γ1++Δ)++PW ps pj L2 (zGc t' jn' m1).1.1 (zGc t' jn' m1).1.2.1 (zGc t' jn' m1).1.2.2)++SB qs qj t')++QB qj M2.pm jn')++RM M2 m1):=hO.perm (by classical exact List.perm_iff_count.2 fun _=>by simp only[List.count_append,List.count_nil,List.set_cons_zero]; omega)
 clear hO
 refine zjy hw3 (by omega) hO2 hrok ?_
 clear hO2 hrok
 intro H Δ2 M3 he hO hrok
 refine zaa zRh ?_
 refine zaa zSh ?_
 have hMq3:M3.pm=M2.pm:=he.m
 rw[← hMq3]
 clear he
 have hw4:=zJL hw3
 clear hw3
 generalize (zGc t' jn' m1).2.1=sa at *
 generalize (zGc t' jn' m1).2.2=se at *
 generalize (zGc t' jn' m1).1.1=t1 at *
 generalize (zGc t' jn' m1).1.2.1=jn1 at *
 generalize (zGc t' jn' m1).1.2.2=m2 at *
 have hO2:St H ((((Γ1++Δ)++Δ2)++PW ps pj L2 t1 jn1 m2)++QW qs qj M3 t1 jn1 m2):=hO.perm (by classical exact List.perm_iff_count.2 fun _=>by simp only[List.count_append,List.count_nil,List.set_cons_zero]; omega)
 clear hO
 have hnr3:RdN ((Γ1++Δ)++Δ2) budv ns:=hnr2.app.app
 have hkr3:RdB ((Γ1++Δ)++Δ2) keptv ks:=hkr2.app.app
 have hj6:((Γ1++Δ)++Δ2)[j4]?=some (p4,(⟨tbC first,true⟩:Blk)):=zza (zza hj5)
 clear hnr2 hkr2 hj5
 generalize (Γ1++Δ)++Δ2=Γ2 at *
 have hff:∀ z:Int,¬ (z≠z):=fun z h=>h rfl
 refine zwa (fun l' H'=>∃ (Γ3:List (Nat × Blk)) (L3:Mloc) (M4:Rm),l'=[.bool false,ptr p4 0,keptv,ptr L3.pm 0,ptr M4.pm 0,budv,int ns.length,int y]∧St H' ((Γ3++PW ps pj L3 t1 jn1 { m2 with ops:=[] })++QW qs qj M4 t1 jn1 { m2 with ops:=[] })∧RdN Γ3 budv ns∧RdB Γ3 keptv ks∧Γ3[j4]?=some (p4,(⟨tbC first,true⟩:Blk))∧Mown L3 { m2 with ops:=[] }∧RMok M4 { m2 with ops:=[] }∧L3.pm=L2.pm∧M4.pm=M3.pm) ?_ ?_
 ·refine zaa zKa ?_
  refine zKp (hff _) ?_
  refine zaa zKa ?_
  refine zaa (zQb (hff _)) ?_
  refine zKp (hff _) ?_
  refine zXt hO2 (j:=Γ2.length+0) (zza (zqa rfl)) ?_
  intro H2 hO3
  refine zaa zfa ?_
  refine zaa zga ?_
  refine zBa hO3 (_+0) (zqa rfl) (show _=tbC t1 from rfl) rfl (by omega) ?_
  refine⟨zmb hO2 (_+0) (zqa rfl) hO3 (_+0) (zqa rfl) rfl,?_⟩
  clear hO2
  refine zaa (zhO rfl _) ?_
  refine zaa (zQb (hff _)) ?_
  refine zFe rfl ?_
  have hO:St H2 (((Γ2++QW qs qj M3 t1 jn1 m2)++(SB ps pj t1++JB pj L2.pm jn1))++MW L2 m2):=hO3.perm (by classical exact List.perm_iff_count.2 fun _=>by simp only[List.count_append,List.count_nil,List.set_cons_zero]; omega)
  clear hO3
  refine zEG hO hown ?_
  clear hO
  intro H hO hown2
  have hO2:St H ((((Γ2++zGa L2.vo (zwi m2.ops))++PW ps pj { L2 with vo:=zya } t1 jn1 { m2 with ops:=[] })++(SB qs qj t1++QB qj M3.pm jn1))++RM M3 m2):=hO.perm (by classical exact List.perm_iff_count.2 fun _=>by simp only[List.count_append,List.count_nil,List.set_cons_zero]; omega)
  clear hO
  refine zrC hrok hO2 ?_
  clear hO2
  intro H hO hrok2
  have hO2:St H ((((Γ2++zGa L2.vo (zwi m2.ops))++zGa M3.vo (zwi m2.ops))++PW ps pj { L2 with vo:=zya } t1 jn1 { m2 with ops:=[] })++QW qs qj { M3 with vo:=zya } t1 jn1 { m2 with ops:=[] }):=hO.perm (by classical exact List.perm_iff_count.2 fun _=>by simp only[List.count_append,List.count_nil,List.set_cons_zero]; omega)
  clear hO
  refine zsC (l:=m2.ops) (i1:=Γ2.length+0) (i2:=(Γ2++zGa L2.vo (zwi m2.ops)).length+0) hO2 hown.o hrok.o (fun hne=>?_) (fun hne=>?_) (Nat.le_trans hw4.sm.2 (by omega)) ?_
  ·obtain⟨p,c,h1,h2⟩:=zFH (Γ:=Γ2) hown.o rfl hne
   exact⟨p,c,h1,zza (zza (zza h2))⟩
  ·obtain⟨p,c,h1,h2⟩:=zFH (Γ:=Γ2++zGa L2.vo (zwi m2.ops)) hrok.o rfl hne
   exact⟨p,c,h1,zza (zza h2)⟩
  refine zaa zyc ?_
  refine zaa zRa ?_
  refine zFe rfl ?_
  exact⟨_,{ L2 with vo:=zya },{ M3 with vo:=zya },rfl,hO2,hnr3.app.app,hkr3.app.app,zza (zza hj6),hown2,hrok2,rfl,rfl⟩
 clear hO2 hown hrok hnr3 hkr3 hj6
 rintro l' H ⟨Γ3,L3,M4,rfl,hO,hnr,hkr,hj4,hown,hrok,hL3,hM4⟩
 try simp only[zla,zma]
 have hw5:=zjO hw4
 clear hw4
 generalize ({ m2 with ops:=[] }:Mp)=m3 at *
 have hO2:St H (((Γ3++QW qs qj M4 t1 jn1 m3)++(SB ps pj t1++JB pj L3.pm jn1))++MW L3 m3):=hO.perm (by classical exact List.perm_iff_count.2 fun _=>by simp only[List.count_append,List.count_nil,List.set_cons_zero]; omega)
 clear hO
 refine zFq hO2 ?_
 refine zgy hw5.ok.d (Nat.le_trans hw5.sm.1 (by omega)) hO2 hown hkr.app.app hkb ?_
 clear hO2 hown
 intro H hO hown
 have hO2:St H (((Γ3++PW ps pj { L3 with vd:=zya } t1 jn1 { m3 with d:=m3.d.restart ks })++(SB qs qj t1++QB qj M4.pm jn1))++RM M4 m3):=hO.perm (by classical exact List.perm_iff_count.2 fun _=>by simp only[List.count_append,List.count_nil,List.set_cons_zero]; omega)
 clear hO
 refine zaa zfa ?_
 refine zaa zga ?_
 refine zha hO2 (_+0) (zqa rfl) (v:=ptr M4.r.pd 0) rfl ?_
 refine zyC hw5.ok.d (Nat.le_trans hw5.sm.1 (by omega)) hrok hO2 hkr.app.app hkb ?_
 clear hO2 hrok
 intro H M5 he hO hrok
 rw[← he.m] at hO
 have hM5:M5.pm=M4.pm:=he.m
 refine zaa hadd ?_
 have hw6:=zEH ks hw5
 have hO2:St H (((Γ3++((SB ps pj t1++JB pj L3.pm jn1)++(SB qs qj t1++QB qj M5.pm jn1)))++MW { L3 with vd:=zya } { m3 with d:=m3.d.restart ks })++RM M5 { m3 with d:=m3.d.restart ks }):=hO.perm (by classical exact List.perm_iff_count.2 fun _=>by simp only[List.count_append,List.count_nil,List.set_cons_zero]; omega)
 exact⟨_,by omega,y+1,Γ3++((SB ps pj t1++JB pj L3.pm jn1)++(SB qs qj t1++QB qj M5.pm jn1)),t1,jn1,{ m3 with d:=m3.d.restart ks },{ L3 with vd:=zya },M5,by omega,rfl,by rw[hL3,hM4],hO2,⟨hown,hrok,hnr.app,hkr.app,⟨j4,zza hj4⟩,hw6,by show L3.pm=L2.pm; rw[hL3],by rw[hM5,hM4]⟩⟩
end J
set_option maxRecDepth 100000
namespace J
open Go Go.Ab
variable{H:Heap}{Γ Γ0 Γ2 Δ G:List (Nat × Blk)}{K:VH}{v w x:Value}{xs ys bs body:List Int}{j p A B k:Nat}{e:Int}{first:Tb}
theorem zlN(a b:Int)(H:Heap):(zpa P 31 2).f [(0,int a),(1,int b)] H=some (sl H.next 0 2 3,H.push [int a,int b]):=by kernel_rfl
theorem znO(p q:Nat):(zAa P 48).f [(0,ptr p 0),(1,sl q 0 2 3)]=some (agg [ptr p 0,sl q 0 2 3,int 0,zya]):=by kernel_rfl
theorem zmN:zc P 22=[int 0,int 0]:=by kernel_rfl
theorem zEA{p q:Nat}{o o':Nat}{cs:List Value}(h:p≠q):zOf (zNa [ptr p o]) (zNa [ptr q o',agg cs]):=by
 show zAd [p] [q]=true
 have e:Nat.beq p q=false:=by
  cases hb:Nat.beq p q with
  | false=>rfl
  | true=>exact absurd (Nat.eq_of_beq_eq_true hb) h
 simp[zAd,zFb,zRD,e]
theorem zKL{A B:Nat}{R:Rl}(h:Rok R (Dv.new 60 10000)){pm q:Nat}:RMok ⟨pm,q,zya,R⟩ (mt A B):=⟨h,.inl ⟨rfl,rfl,rfl⟩,rfl⟩
abbrev stC(b0 b1:Int)(t:Tb)(v w:Value):List Value:=int b0::int b1::(tbC t++[v,w])
set_option maxHeartbeats 16000000 in
theorem starts_main{ns ks:List Int}{budv keptv:Value}{b0 b1:Int}(hO:St H G)(htw:TW first)(hr:RdN G budv ns)(hnb:∀ x ∈ ns,x≤9223372036854775807)(hkr:RdB G keptv ks)(hkb:By ks):wCall P zHe [agg (stC b0 b1 first budv keptv)] H fun v _=>v=.bool true:=by
 apply zEm; unfold zoj
 refine zxa hO ?_
 clear hO
 intro p1 H hO
 replace hO:St H (G++[(p1,⟨stC b0 b1 first budv keptv,true⟩)]):=hO
 refine zjl ?_
 refine zaa zyc ?_
 refine zFe rfl ?_
 refine zaa zga ?_
 refine zBa hO (_+0) (zqa rfl) (show _=[int b0,int b1] from rfl) rfl (by omega) ?_
 refine zaa zga ?_
 refine zBa hO (_+0) (zqa rfl) (show _=tbC first from rfl) rfl (by omega) ?_
 refine zaa zga ?_
 refine zha hO (_+0) (zqa rfl) (v:=budv) rfl ?_
 refine zaa zga ?_
 refine zha hO (_+0) (zqa rfl) (v:=keptv) rfl ?_
 rw[zmN,zdH]
 refine zxa hO ?_
 clear hO
 intro p3 H hO
 refine zxa hO ?_
 clear hO
 intro p4 H hO
 replace hO:St H (((G++[(p1,⟨stC b0 b1 first budv keptv,true⟩)])++[(p4,⟨tbC tbz,true⟩)])++[(p3,⟨[int 0,int 0],true⟩)]):=hO.perm (by classical exact List.perm_iff_count.2 fun _=>by simp only[List.count_append,List.count_nil,List.set_cons_zero]; omega)
 have n13:p1≠p3:=St.ne hO (i:=G.length+0) (j:=((G++[(p1,(⟨stC b0 b1 first budv keptv,true⟩:Blk))])++[(p4,(⟨tbC tbz,true⟩:Blk))]).length+0) (zza (zza (zqa rfl))) (zqa rfl) (by simp)
 have n14:p1≠p4:=St.ne hO (i:=G.length+0) (j:=(G++[(p1,(⟨stC b0 b1 first budv keptv,true⟩:Blk))]).length+0) (zza (zza (zqa rfl))) (zza (zqa rfl)) (by simp)
 refine zoa hO (_+0) (zqa rfl) rfl (show [int b0,int b1].length=2 from rfl) rfl ?_
 clear hO
 intro H hO
 replace hO:=hO.set_r
 refine⟨zEA n13,zEA n13,zEA n13,?_⟩
 replace hO:St H (((G++[(p1,⟨stC b0 b1 first budv keptv,true⟩)])++[(p3,⟨[int b0,int b1],true⟩)])++[(p4,⟨tbC tbz,true⟩)]):=hO.perm (by classical exact List.perm_iff_count.2 fun _=>by simp only[List.count_append,List.count_nil,List.set_cons_zero]; omega)
 refine zoa hO (_+0) (zqa rfl) rfl (show (tbC first).length=75 from rfl) rfl ?_
 clear hO
 intro H hO
 replace hO:=hO.set_r
 refine⟨zEA n14,zEA n14,?_⟩
 clear n13 n14
 have hr1:RdN (G++[(p1,(⟨stC b0 b1 first budv keptv,true⟩:Blk))]) budv ns:=hr.app
 have hkr1:RdB (G++[(p1,(⟨stC b0 b1 first budv keptv,true⟩:Blk))]) keptv ks:=hkr.app
 generalize G++[(p1,(⟨stC b0 b1 first budv keptv,true⟩:Blk))]=G1 at *
 have i3:((G1++[(p3,(⟨[int b0,int b1],true⟩:Blk))])++[(p4,⟨tbC first,true⟩)])[G1.length+0]?=some (p3,⟨[int b0,int b1],true⟩):=zza (zqa rfl)
 refine zwa (fun l' H'=>l'=[.bool false,ptr p3 0,ptr p4 0,budv,keptv]∧St H' ((G1++[(p3,(⟨[int b0,int b1],true⟩:Blk))])++[(p4,⟨tbC first,true⟩)])∧1≤b0∧b0≤20∧1≤b1∧b1≤20∧ns.length≤30∧TRight first) ?_ ?_
 ·refine zaa (zjb (by omega) (by omega)) ?_
  refine zha hO _ i3 (v:=int b0) rfl ?_
  refine zaa zMa ?_
  refine zja (fun h1=>?_) (fun h1=>?_)
  ·rw[decide_eq_true h1]
   repeat (first|refine oi ?_|refine wt ?_)
   rfl
  rw[decide_eq_false h1]
  refine zaa (zjb (by omega) (by omega)) ?_
  refine zha hO _ i3 (v:=int b1) rfl ?_
  refine zaa zMa ?_
  refine zaa zRa ?_
  refine zja (fun h2=>?_) (fun h2=>?_)
  ·rw[decide_eq_true h2]
   repeat (first|refine oi ?_|refine wt ?_)
   rfl
  rw[decide_eq_false h2]
  refine zaa (zjb (by omega) (by omega)) ?_
  refine zha hO _ i3 (v:=int b0) rfl ?_
  refine zaa zkc ?_
  refine zaa zRa ?_
  refine zja (fun h3=>?_) (fun h3=>?_)
  ·rw[decide_eq_true h3]
   repeat (first|refine oi ?_|refine wt ?_)
   rfl
  rw[decide_eq_false h3]
  refine zaa (zjb (by omega) (by omega)) ?_
  refine zha hO _ i3 (v:=int b1) rfl ?_
  refine zaa zkc ?_
  refine zaa zRa ?_
  refine zja (fun h4=>?_) (fun h4=>?_)
  ·rw[decide_eq_true h4]
   repeat (first|refine oi ?_|refine wt ?_)
   rfl
  rw[decide_eq_false h4]
  refine zDa hr.lenSl ?_
  refine zaa zkc ?_
  refine zaa zRa ?_
  refine zja (fun h5=>?_) (fun h5=>?_)
  ·rw[decide_eq_true h5]
   repeat (first|refine oi ?_|refine wt ?_)
   rfl
  rw[decide_eq_false h5]
  refine zDa hkr.lenSl ?_
  refine zaa zkc ?_
  refine zaa zRa ?_
  refine zja (fun h6=>?_) (fun h6=>?_)
  ·rw[decide_eq_true h6]
   repeat (first|refine oi ?_|refine wt ?_)
   rfl
  rw[decide_eq_false h6]
  refine zia hO (_+0) (zqa rfl) rfl (by omega) ?_
  refine zbd hO ?_
  clear hO
  intro H hO
  refine zaa zyc ?_
  refine zaa zRa ?_
  by_cases hf:TRight first
  ·rw[decide_eq_true hf]
   refine zFe rfl ?_
   exact⟨rfl,hO,by omega,by omega,by omega,by omega,by omega,hf⟩
  ·rw[decide_eq_false hf]
   refine zdg rfl ?_
   rfl
 clear hO i3
 rintro l' H ⟨rfl,hO,h1,h2,h3,h4,h5,hf⟩
 try simp only[zla,zma]
 obtain⟨A,rfl⟩:∃ A:Nat,b0=A:=⟨b0.toNat,by omega⟩
 obtain⟨B,rfl⟩:∃ B:Nat,b1=B:=⟨b1.toNat,by omega⟩
 have hs:A+B≤60:=by omega
 have hi4:∀ {Δ:List (Nat × Blk)},(((G1++[(p3,(⟨[int A,int B],true⟩:Blk))])++[(p4,⟨tbC first,true⟩)])++Δ)[(G1++[(p3,(⟨[int A,int B],true⟩:Blk))]).length+0]?=some (p4,⟨tbC first,true⟩):=zza (zqa rfl)
 have hj4:((G1++[(p3,(⟨[int A,int B],true⟩:Blk))])++[(p4,⟨tbC first,true⟩)])[(G1++[(p3,(⟨[int A,int B],true⟩:Blk))]).length+0]?=some (p4,⟨tbC first,true⟩):=zqa rfl
 have hi3:((G1++[(p3,(⟨[int A,int B],true⟩:Blk))])++[(p4,⟨tbC first,true⟩)])[G1.length+0]?=some (p3,⟨[int A,int B],true⟩):=zza (zqa rfl)
 have hr2:RdN ((G1++[(p3,(⟨[int A,int B],true⟩:Blk))])++[(p4,⟨tbC first,true⟩)]) budv ns:=hr1.app.app
 have hkr2:RdB ((G1++[(p3,(⟨[int A,int B],true⟩:Blk))])++[(p4,⟨tbC first,true⟩)]) keptv ks:=hkr1.app.app
 generalize ((G1++[(p3,(⟨[int A,int B],true⟩:Blk))])++[(p4,(⟨tbC first,true⟩:Blk))])=G2 at *
 generalize (G1++[(p3,(⟨[int A,int B],true⟩:Blk))]).length+0=j4 at *
 generalize G1.length+0=j3 at *
 clear hr1 hkr1 hr hkr
 refine zDG (n:=60) (w:=10000) (by omega) (by omega) hO ?_
 intro H2 pd pc hO2
 refine zaa (zjb (by omega) (by omega)) ?_
 refine zha hO2 j3 (zza hi3) (v:=int A) rfl ?_
 refine⟨zmb hO j3 hi3 hO2 j3 (zza hi3) rfl,?_⟩
 refine zaa (zjb (by omega) (by omega)) ?_
 refine zha hO2 j3 (zza hi3) (v:=int B) rfl ?_
 refine⟨zmb hO j3 hi3 hO2 j3 (zza hi3) rfl,?_⟩
 refine zEa hO2 (zlN _ _ _) ?_
 clear hO hO2
 intro q H hO
 replace hO:=hO.rot
 refine zFG (sizes:=[A,B]) (jz:=G2.length+0) (Dv.new_ok (by omega) (by omega)) hO (zqa rfl) (by simp) (by simp) (fun n hn=>?_) ?_ (.inl ⟨rfl,rfl,rfl⟩) ?_
 ·simp at hn; rcases hn with rfl|rfl <;> omega
 ·show A+(B+0)≤(List.replicate 60 zlf).length
  rw[List.length_replicate]; omega
 clear hO
 intro H pm ps hO hown
 refine zaa zRh ?_
 refine zaa zSh ?_
 replace hO:St H ((G2++[(q,⟨[int A,int B],true⟩)])++MW ⟨pm,pd,pc,ps,zya,zya⟩ (mt A B)):=hO
 replace hown:Mown ⟨pm,pd,pc,ps,zya,zya⟩ (mt A B):=hown
 replace hO:St H (G2++MW ⟨pm,pd,pc,ps,zya,zya⟩ (mt A B)):=St.mid hO
 have hp:(⟨pm,pd,pc,ps,zya,zya⟩:Mloc).pm=pm:=rfl
 rw[← hp]
 generalize (⟨pm,pd,pc,ps,zya,zya⟩:Mloc)=L at hO hown
 clear hp
 have hOa:=hO
 refine zJE (n:=60) (w:=10000) (by omega) (by omega) hO ?_
 clear hO
 intro H R hO hR
 replace hO:St H ((G2++MW L (mt A B))++RW R (Dv.new 60 10000)):=hO
 refine zaa (zjb (by omega) (by omega)) ?_
 refine zha hO j3 (zza (zza hi3)) (v:=int A) rfl ?_
 refine⟨zmb hOa j3 (zza hi3) hO j3 (zza (zza hi3)) rfl,?_⟩
 refine zaa (zjb (by omega) (by omega)) ?_
 refine zha hO j3 (zza (zza hi3)) (v:=int B) rfl ?_
 refine⟨zmb hOa j3 (zza hi3) hO j3 (zza (zza hi3)) rfl,?_⟩
 clear hOa
 refine zEa hO (zlN _ _ _) ?_
 clear hO
 intro q3 H hO
 refine zaa (znO _ _) ?_
 refine zxa hO ?_
 clear hO
 intro pw H hO
 replace hO:St H ((((G2++MW L (mt A B))++RW R (Dv.new 60 10000))++[(q3,⟨[int A,int B],true⟩)])++[(pw,⟨[ptr R.pd 0,sl q3 0 2 3,int 0,zya],true⟩)]):=hO
 have hO2:St H ((G2++MW L (mt A B))++(([(pw,⟨[ptr R.pd 0,sl q3 0 2 3,int 0,zya],true⟩)]++[(q3,⟨[int A,int B],true⟩)])++([]++RW R (Dv.new 60 10000)))):=hO.perm (by classical exact List.perm_iff_count.2 fun _=>by simp only[List.count_append,List.count_nil,List.set_cons_zero]; omega)
 replace hO2:St H ((G2++MW L (mt A B))++RM ⟨pw,q3,zya,R⟩ (mt A B)):=hO2
 clear hO
 have hM0:RMok ⟨pw,q3,zya,R⟩ (mt A B):=zKL hR
 have hpw:(⟨pw,q3,zya,R⟩:Rm).pm=pw:=rfl
 rw[← hpw]
 generalize (⟨pw,q3,zya,R⟩:Rm)=M at hO2 hM0
 clear hpw hR R
 refine zDa hr2.lenSl ?_
 have hw0:=zkO (first:=first) (A:=A) (B:=B) (by omega) (by omega) hs htw
 refine zLH (by omega) (by omega) hf htw rfl h5 hnb hkb hO2 ⟨hown,hM0,hr2,hkr2,⟨j4,hj4⟩,hw0,rfl,rfl⟩ ?_
 intro H'
 exact zgb rfl (by first|rfl|trivial)
end J
set_option maxRecDepth 100000
namespace J
open Go Go.Ab
variable{H:Heap}{Γ G:List (Nat × Blk)}{K:VH}{v w x:Value}{xs ys bs:List Int}{j p:Nat}{e:Int}{l:List Ch}{t:Tb}
theorem zFA{ts:List TypeId}{N:Nat}{c:List Value}{b:List (List Value)}(h:ShpL P (27::ts) N c b):∃ (s:Sl) (c':List Value),c=slC s++c'∧(∀ i,0≤s.dg i∧s.dg i≤255)∧ShpL P ts N c' b:=by
 have h0:=zTm Go.Proofs.Tryz.underlying27 h
 have h0:ShpL P (3::3::23::3::25::ts) N c b:=h0
 obtain⟨x1,c1,rfl,_,h1⟩:=zGf (k:=.i64) Go.Proofs.Tryz.underlying3 h0
 obtain⟨x2,c2,rfl,_,h2⟩:=zGf (k:=.i64) Go.Proofs.Tryz.underlying3 h1
 obtain⟨x3,c3,rfl,_,h3⟩:=zGf (k:=.u64) Go.Proofs.Tryz.underlying23 h2
 obtain⟨x4,c4,rfl,_,h4⟩:=zGf (k:=.i64) Go.Proofs.Tryz.underlying3 h3
 have h5:=zyp Go.Proofs.Tryz.underlying25 h4
 have H:∀ (n N:Nat) (c:List Value) (b:List (List Value)),ShpL P (List.replicate n 5++ts) N c b→∃ (xs:List Int) (c':List Value),xs.length=n∧c=xs.map (Value.int .u8)++c'∧By xs∧ShpL P ts N c' b:=by
  intro n
  induction n with
  | zero=>intro N c b h; exact⟨[],c,rfl,rfl,fun x hx=>(by cases hx),h⟩
  | succ n ih=>
   intro N c b h
   obtain⟨x,c',rfl,w,h1⟩:=zGf (k:=.u8) Go.Proofs.Tryz.underlying5 (show ShpL P (5::(List.replicate n 5++ts)) N c b from h)
   obtain⟨xs,c'',hl,rfl,hb,h2⟩:=ih N _ _ h1
   refine⟨x::xs,c'',by simp[hl],rfl,?_,h2⟩
   intro y hy
   rcases List.mem_cons.1 hy with rfl|hy
   ·exact wf_u8 w
   ·exact hb y hy
 obtain⟨xs,c',hl,rfl,hb,h6⟩:=H _ _ _ _ h5
 refine⟨⟨x1,x2,x3,x4,fun i=>xs.getD i 0⟩,c',?_,?_,h6⟩
 ·rw[zQJ xs hl]; rfl
 ·intro i
  show 0≤xs.getD i 0∧xs.getD i 0≤255
  rw[List.getD_eq_getElem?_getD]
  by_cases hi:i < xs.length
  ·rw[List.getElem?_eq_getElem hi]; exact hb _ (List.getElem_mem hi)
  ·rw[List.getElem?_eq_none (by omega)]; decide
theorem zQE{ts:List TypeId}{N:Nat}{c:List Value}{b:List (List Value)}(h:ShpL P (30::ts) N c b):∃ (t:Tb) (c':List Value),c=tbC t++c'∧TW t∧ShpL P ts N c' b:=by
 have h0:=zTm Go.Proofs.Tryz.underlying30 h
 have h0:ShpL P (28::3::3::23::ts) N c b:=h0
 have h1:=zyp Go.Proofs.Tryz.underlying28 h0
 have h1:ShpL P (27::27::3::3::23::ts) N c b:=h1
 obtain⟨a,c1,e1,ha,h2'⟩:=zFA h1
 obtain⟨s,c2,e2,hb,h3⟩:=zFA h2'
 obtain⟨x1,c3,e3,_,h4⟩:=zGf (k:=.i64) Go.Proofs.Tryz.underlying3 h3
 obtain⟨x2,c4,e4,_,h5⟩:=zGf (k:=.i64) Go.Proofs.Tryz.underlying3 h4
 obtain⟨x3,c5,e5,w,h6⟩:=zGf (k:=.u64) Go.Proofs.Tryz.underlying23 h5
 refine⟨⟨a,s,x1,x2,x3⟩,c5,?_,⟨(wf_u64 w).1,ha,hb⟩,h6⟩
 rw[e1,e2,e3,e4,e5]; simp[tbC]
theorem c8:P.cellsOf 5=1:=by kernel_rfl
theorem zMH{ts:List TypeId}{N:Nat}{c:List Value}{b:List (List Value)}(h:ShpL P (32::ts) N c b) :
  ∃ v xs c' b1 b2,c=v::c'∧b=b1++b2∧ArgB (argG N b1) v xs∧By xs∧ShpL P ts (N+b1.length) c' b2:=by
 rcases zKJ u46 h with⟨c',e1,h3⟩|⟨len,cells,c',bs,b',e1,eb1,hm,hl,h3,h4⟩
 ·exact⟨_,[],c',[],b,e1,rfl,.inl ⟨rfl,rfl⟩,fun x hx=>(by cases hx),h3⟩
 ·obtain⟨hb,xs,rfl,rfl,hw⟩:=zCs (k:=.u8) Go.Proofs.Tryz.underlying5 _ _ _ _ h3
  subst hb
  subst eb1
  exact⟨_,xs,c',[by8 xs],b',e1,rfl,.inr ⟨N,0,rfl,rfl⟩,fun x hx=>wf_u8 (hw x hx),h4⟩
theorem zyJ{ts:List TypeId}{N:Nat}{c:List Value}{b:List (List Value)}(h:ShpL P (31::ts) N c b) :
  ∃ v xs c' b1 b2,c=v::c'∧b=b1++b2∧RdN (argG N b1) v xs∧(∀ x ∈ xs,x≤9223372036854775807)∧ShpL P ts (N+b1.length) c' b2:=by
 have hu:P.underlying 31=some (.slice 3):=by kernel_rfl
 rcases zKJ hu h with⟨c',e1,h3⟩|⟨len,cells,c',bs,b',e1,eb1,hm,hl,h3,h4⟩
 ·exact⟨_,[],c',[],b,e1,rfl,.inl ⟨rfl,rfl⟩,fun x hx=>(by cases hx),h3⟩
 ·obtain⟨hb,xs,rfl,rfl,hw⟩:=zCs (k:=.i64) Go.Proofs.Tryz.underlying3 _ _ _ _ h3
  subst hb
  subst eb1
  exact⟨_,xs,c',[xs.map (Value.int .i64)],b',e1,rfl,.inr ⟨N,_,0,false,rfl,rfl⟩,fun x hx=>(wf_i64 (hw x hx)).2,h4⟩
theorem arg_starts{ts:List TypeId}{N:Nat}{av:List Value}{b:List (List Value)}(h:ArgS P (34::ts) N av b) :
  ∃ (b0 b1:Int) (t:Tb) (v w:Value) (ns ks:List Int) (vs:List Value) (c1 c2:List (List Value)),av=agg (stC b0 b1 t v w)::vs∧b=c1++c2∧TW t∧RdN (argG N c1) v ns∧(∀ x ∈ ns,x≤9223372036854775807)∧RdB (argG N c1) w ks∧By ks∧ArgS P ts (N+c1.length) vs c2:=by
 obtain⟨cs,vs,b1,b2,rfl,rfl,h1,h2⟩:=zJK h (.inl ⟨_,Go.Proofs.Tryz.underlying34⟩)
 have h0:=zTm Go.Proofs.Tryz.underlying34 h1
 have h0:ShpL P (22::30::31::32::[]) N cs b1:=h0
 have h3:=zyp Go.Proofs.Tryz.underlying22 h0
 have h3:ShpL P (3::3::30::31::32::[]) N cs b1:=h3
 obtain⟨x1,c1,rfl,_,h4⟩:=zGf (k:=.i64) Go.Proofs.Tryz.underlying3 h3
 obtain⟨x2,c2,rfl,_,h5⟩:=zGf (k:=.i64) Go.Proofs.Tryz.underlying3 h4
 obtain⟨t,c3,rfl,htw,h6⟩:=zQE h5
 obtain⟨v,ns,c4,d1,d2,rfl,rfl,hn,hnb,h7⟩:=zyJ h6
 obtain⟨w,ks,c5,d3,d4,rfl,rfl,hk,hkb,h8⟩:=zMH h7
 obtain⟨rfl,rfl⟩:=zIK h8
 refine⟨x1,x2,t,v,w,ns,ks,vs,d1++(d3++[]),b2,rfl,rfl,htw,?_,hnb,?_,hkb,h2⟩
 ·rw[argG_append]; exact hn.app
 ·rw[argG_append,List.append_nil]; exact (zgK hk).rd
end J
