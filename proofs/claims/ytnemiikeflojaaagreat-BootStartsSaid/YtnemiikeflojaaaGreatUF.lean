/- texts of the proof, one behind the other -/
import Derived.Test.YtnemiikeflojaaaGreatUE
set_option linter.unusedSimpArgs false
set_option linter.unusedSectionVars false
set_option linter.unusedVariables false
set_option maxRecDepth 100000
namespace J
open Go Go.Ab
section
variable{xs ys zs bs:List Int}{e:Int}{c:Ch}{l:List Ch}{k n:Nat}
theorem zqo(hb:By xs):By (dec xs e).2.1:=by
 unfold dec
 split
 ·exact zsb (zsb (zsb hb _ _) _ _) _ _
 ·split
  ·exact zsb (zsb hb _ _) _ _
  ·split
   ·exact zsb (zsb hb _ _) _ _
   ·split
    ·exact zsb (zsb hb _ _) _ _
    ·exact zsb hb _ _
theorem zVt:∀ (k:Nat) (xs:List Int) (e:Int),(rGo k xs e).1.length=k
 | 0,_,_=>rfl
 | k+1,xs,e=>by show (_::_).length=_; rw[List.length_cons,zVt k]
theorem zro:∀ (k:Nat) (xs:List Int) (r:List Ch × List Int × Int),By xs→pGo k xs 0=some r→r.2.2=0∧rGo k xs 0=r∧xs=r.1.flatMap cBy++r.2.1∧∀ c ∈ r.1,zTa c
 | 0,xs,r,hb,h=>by cases h; exact⟨rfl,rfl,rfl,by simp⟩
 | k+1,xs,r,hb,h=>by
  have h:(if DOk (dec xs 0) then (pGo k (dec xs 0).2.1 (dec xs 0).2.2.1).map fun r=>((dec xs 0).1::r.1,r.2) else none)=some r:=h
  by_cases hd:DOk (dec xs 0)
  ·rw[if_pos hd] at h
   obtain⟨hs,he,hc⟩:=hd
   rw[he] at h
   cases hp:pGo k (dec xs 0).2.1 0 with
   | none=>rw[hp] at h; cases h
   | some r'=>
    rw[hp] at h
    cases h
    obtain⟨i1,i2,i3,i4⟩:=zro k _ r' (zqo hb) hp
    refine⟨i1,?_,?_,?_⟩
    ·show ((dec xs 0).1::(rGo k (dec xs 0).2.1 (dec xs 0).2.2.1).1,(rGo k (dec xs 0).2.1 (dec xs 0).2.2.1).2)=_
     rw[he,i2]
    ·have:=(zRJ hb he hc (.inl hs)).2
     show xs=cBy (dec xs 0).1++r'.1.flatMap cBy++r'.2.1
     rw[List.append_assoc,← i3]
     exact this
    ·intro c hc'
     rcases List.mem_cons.1 hc' with rfl|hc'
     ·exact hc
     ·exact i4 c hc'
  ·rw[if_neg hd] at h; cases h
theorem zHq:∀ (k:Nat) (xs zs:List Int),By xs→(rGo k xs 0).2.2=0→(∀ c ∈ (rGo k xs 0).1,zTa c)→xs=(rGo k xs 0).1.flatMap cBy++zs→pGo k xs 0=some (rGo k xs 0)
 | 0,xs,zs,hb,h,hc,hx=>rfl
 | k+1,xs,zs,hb,h,hc,hx=>by
  have e0:rGo (k+1) xs 0=((dec xs 0).1::(rGo k (dec xs 0).2.1 (dec xs 0).2.2.1).1,(rGo k (dec xs 0).2.1 (dec xs 0).2.2.1).2):=rfl
  rw[e0] at h hc hx ⊢
  have he:(dec xs 0).2.2.1=0:=by
   by_cases he:(dec xs 0).2.2.1=0
   ·exact he
   ·exact absurd h (zfC k _ _ he)
  rw[he] at h hc hx ⊢
  have hc1:zTa (dec xs 0).1:=hc _ List.mem_cons_self
  have hx':xs=cBy (dec xs 0).1++((rGo k (dec xs 0).2.1 0).1.flatMap cBy++zs):=by
   rw[← List.append_assoc]; exact hx
  obtain⟨hs,hxx⟩:=zRJ hb he hc1 (.inr ⟨_,hx'⟩)
  have hrest:(dec xs 0).2.1=(rGo k (dec xs 0).2.1 0).1.flatMap cBy++zs:=List.append_cancel_left (hxx.symm.trans hx')
  have ih:=zHq k _ zs (zqo hb) h (fun c h'=>hc c (List.mem_cons_of_mem _ h')) hrest
  show (if DOk (dec xs 0) then (pGo k (dec xs 0).2.1 (dec xs 0).2.2.1).map fun r=>((dec xs 0).1::r.1,r.2) else none)=_
  rw[if_pos ⟨hs,he,hc1⟩,he,ih]; rfl
theorem zWt(h:zZu xs e=0):e=0∧xs=[]:=by
 unfold zZu at h
 split at h
 ·cases h
 ·rename_i h2
  refine⟨h,?_⟩
  by_cases h3:0 < xs.length
  ·exact absurd ⟨h,h3⟩ h2
  ·exact List.length_eq_zero_iff.1 (by omega)
theorem zjH(hb:By bs):zZx bs=zhH bs:=by
 unfold zZx zhH
 by_cases h1:1≤bs.length
 ·obtain⟨a1,a2,a3⟩:=zDf h1
  have hk1:leN 1 (zUc bs 0 1)=bs.take 1:=by unfold zUc; rw[a1]; exact zLf hb h1
  rw[a2,a3]
  have hd:By (bs.drop 1):=fun x hx=>hb x (List.mem_of_mem_drop hx)
  generalize zUc bs 0 1=m at *
  by_cases h8:m≤8
  ·rw[if_pos h8,Nat.min_eq_left (by omega)]
   cases hp:pGo m (bs.drop 1) 0 with
   | some r=>
    obtain⟨i1,i2,i3,i4⟩:=zro m _ r hd hp
    have hlen:r.1.length=m:=by rw[← i2]; exact zVt m _ _
    rw[i2]
    simp only
    by_cases hE:zZu r.2.1 r.2.2=0
    ·rw[if_pos hE,if_pos]
     refine⟨hE,?_⟩
     have hnil:=(zWt hE).2
     unfold lBy
     rw[if_pos ⟨by omega,i4⟩,hlen,hk1]
     rw[hnil,List.append_nil] at i3
     rw[← i3,List.take_append_drop]
    ·rw[if_neg hE,if_neg (fun h=>hE h.1)]
   | none=>
    simp only
    rw[if_neg]
    rintro⟨hE,hl⟩
    obtain⟨he0,hnil⟩:=zWt hE
    have hlen:=zVt m (bs.drop 1) 0
    unfold lBy at hl
    by_cases hok:TOk (rGo m (bs.drop 1) 0).1
    ·rw[if_pos hok,hlen,hk1] at hl
     have hx:bs.drop 1=(rGo m (bs.drop 1) 0).1.flatMap cBy++[]:=by
      rw[List.append_nil]
      have:=hl.trans (List.take_append_drop 1 bs).symm
      exact (List.append_cancel_left this).symm
     have:=zHq m _ [] hd he0 hok.2 hx
     rw[this] at hp; cases hp
    ·rw[if_neg hok] at hl
     rw[← hl] at h1; simp at h1
  ·rw[if_neg h8,if_neg]
   rintro⟨_,hl⟩
   unfold lBy at hl
   have hlen:=zVt (min m 9) (bs.drop 1) 0
   rw[if_neg (fun h=>by have:=h.1; omega)] at hl
   rw[← hl] at h1; simp at h1
 ·obtain⟨a1,a2,a3⟩:=zdf (by omega:bs.length < 1)
  have a4:zUc bs 0 1=0:=by unfold zUc; rw[a1]; rfl
  rw[a2,a3,a4]
  rw[if_pos (by omega),show min 0 9=0 from rfl]
  show (if zZu [] 51=0 then _ else _)=_
  rw[if_neg (by decide),if_neg]
  exact fun h=>absurd h.1 (by decide)
end
section
variable{H:Heap}{Γ:List (Nat × Blk)}{K:VH}{v w x:Value}{xs ys bs:List Int}{j p:Nat}{e:Int}
def chz:Ch:=⟨0,0,0,slz 0,0⟩
theorem b41:(zAa P 81).f []=some (agg (chC chz)):=by kernel_rfl
theorem zwO(k:Int):(zAa P 81).f [(0,int k)]=some (agg (chC ⟨k,0,0,slz 0,0⟩)):=by kernel_rfl
theorem Inh.trans{v v' v'':Value}{xs ys zs:List Int}(h:Inh v xs v' ys)(h2:Inh v' ys v'' zs):Inh v xs v'' zs:=fun Γ' hr=>h2 Γ' (h Γ' hr)
def dCh(xs:List Int)(e:Int):Ch × Int:=if DOk (dec xs e) then ((dec xs e).1,0) else (chz,111)
set_option maxHeartbeats 8000000 in
theorem zzp(hO:St H Γ)(hj:Γ[j]?=some (p,rdr v e))(hv:RdB Γ v xs)(hx:xs.length≤1000000)(hb:By xs)
  (hk:∀ H' v2,St H' (Γ.set j (p,rdr v2 (dec xs e).2.2.1))→Inh v xs v2 (dec xs e).2.1→K (.tuple [agg (chC (dCh xs e).1),int (dCh xs e).2].toArray) H'):wCall P zLh [ptr p 0] H K:=by
 apply zgt; unfold zgq
 have hjl:=(List.getElem?_eq_some_iff.1 hj).1
 rw[zRE]
 refine zxa hO ?_
 intro q H hO
 refine zuc (k:=1) (by omega) hO (zza hj) hv.app hb ?_
 intro H v1 hO i1
 rw[List.set_append_left _ _ hjl] at hO
 have hl1:=zEj hb e 1
 have hb1:=zsb hb 1 e
 have hx1:=zid xs e 1
 refine zDa (zTy (by omega)) ?_
 refine zaa (zwO _) ?_
 refine zxa hO ?_
 intro p4 H hO
 rw[List.append_assoc] at hO
 have hlen:∀ y,(Γ.set j y).length=Γ.length:=fun y=>List.length_set
 have hj1:∀ v' e',(Γ.set j (p,rdr v' e'))[j]?=some (p,rdr v' e'):=fun v' e'=>zdw hj
 let C:Value→Int→Ch→List (Nat × Blk):=fun v' e' c=>Γ.set j (p,rdr v' e')++[(q,⟨chC chz,true⟩),(p4,⟨chC c,true⟩)]
 have rv:∀ {v'' ys},Inh v xs v'' ys→∀ v' e' c,RdB (C v' e' c) v'' ys:=fun hi v' e' c=>(hi _ (zsD hv hj (RdB.shape hv))).app
 have fx:∀ {H:Heap} {v':Value} {ys:List Int} {e':Int} {c:Ch} {k:Nat} {K':VH},k≤8→By ys→St H (C v' e' c)→Inh v xs v' ys→(∀ H' v'',St H' (C v'' (tkE ys e' k) c)→Inh v xs v'' (tkR ys e' k)→K' (zib .u64 (leV (tkB ys e' k))) H')→wCall P zCa [ptr p 0,int k] H K':=by
  intro H v' ys e' c k K' h8 hby hOc hi hkk
  refine zuc h8 hOc (zza (hj1 v' e')) (rv hi v' e' c) hby ?_
  intro H' v'' hO' hi'
  rw[List.set_append_left _ _ (by rw[hlen]; exact hjl),List.set_set] at hO'
  exact hkk H' v'' hO' (hi.trans hi')
 refine zoa hO ((Γ.set j (p,rdr v1 (tkE xs e 1))).length+1) (zqa rfl) rfl rfl rfl ?_
 intro H hO
 replace hO:St H (C v1 (tkE xs e 1) ⟨(zUc xs e 1:Nat),0,0,slz 0,0⟩):=hO.set_r
 obtain⟨d,hd⟩:∃ d,d=dec xs e:=⟨_,rfl⟩
 unfold dCh at hk
 rw[← hd] at hk
 have last:∀ (H:Heap) (v2:Value),d.2.2.2=0→St H (C v2 d.2.2.1 d.1)→Inh v xs v2 d.2.1→(zab (fun J_1=>
   wCall P zCc [ptr p 0] H fun t48 H68=>
   opP ((zsa P .neq 38 true).f t48 (.int .i64 0)) fun t49=>
   wIf t49 (
   opP (zra t49 (.bool true) undef) fun t54=>
   J_1 [ptr q 0,ptr p4 0,t54] H68) (
   opW (zna 40 (ptr p4 0) H68) fun t51 H72=>
   wCall P zOe [t51] H72 fun t52 H74=>
   opP (unA .not t52) fun t53=>
   opP (zra t49 (.bool true) t53) fun t54_1=>
   J_1 [ptr q 0,ptr p4 0,t54_1] H74)) (fun l_1 H78=>
   wIf (nth l_1 2) (
   opP ((zAa P 81).f []) fun t55=>
   opW (zka 40 (nth l_1 0) t55 H78) fun u_8 H81=>
   opW (zna 40 (nth l_1 0) H81) fun r_1 _=>
   K (.tuple [r_1,(.int .i64 111)].toArray) H81) (
   opW (zna 40 (nth l_1 1) H78) fun t56 H84=>
   opW (zka 40 (nth l_1 0) t56 H84) fun u_9 H86=>
   opW (zna 40 (nth l_1 0) H86) fun r_2 _=>
   K (.tuple [r_2,(.int .i64 0)].toArray) H86))):=by
  intro H v2 hs hO hi
  refine zwa (fun l' H'=>l'=[ptr q 0,ptr p4 0,.bool (decide (¬ DOk d))]∧St H' (C v2 d.2.2.1 d.1)) ?_ ?_
  ·refine zfA hO (zza (hj1 _ _)) ?_
   refine zaa zKa ?_
   refine zja (fun h=>?_) (fun h=>?_)
   ·repeat refine oi ?_
    refine⟨?_,hO⟩
    rw[decide_eq_true (show ¬ DOk d from fun h'=>h h'.2.1)]
   ·refine zia hO ((Γ.set j (p,rdr v2 d.2.2.1)).length+1) (zqa rfl) rfl (by omega) ?_
    refine zCj hO ?_
    intro H hO
    repeat refine oi ?_
    refine⟨?_,hO⟩
    have:DOk d↔zTa d.1:=⟨fun h'=>h'.2.2,fun h'=>⟨hs,Decidable.not_not.1 h,h'⟩⟩
    by_cases hc:zTa d.1
    ·rw[decide_eq_true hc,decide_eq_false (show ¬ ¬ DOk d from fun h'=>h' (this.2 hc))]; rfl
    ·rw[decide_eq_false hc,decide_eq_true (show ¬ DOk d from fun h'=>hc (this.1 h'))]; rfl
  clear hO
  rintro l' H ⟨rfl,hO⟩
  try simp only[zla,zma]
  refine zja (fun h=>?_) (fun h=>?_)
  ·rw[if_neg h] at hk
   refine zaa b41 ?_
   refine zoa hO ((Γ.set j (p,rdr v2 d.2.2.1)).length+0) (zqa rfl) rfl rfl rfl ?_
   intro H hO
   replace hO:=hO.set_r
   refine zia hO ((Γ.set j (p,rdr v2 d.2.2.1)).length+0) (zqa rfl) rfl (by omega) ?_
   exact hk _ v2 hO.left hi
  ·have h:=Decidable.not_not.1 h
   rw[if_pos h] at hk
   refine zia hO ((Γ.set j (p,rdr v2 d.2.2.1)).length+1) (zqa rfl) rfl (by omega) ?_
   refine zoa hO ((Γ.set j (p,rdr v2 d.2.2.1)).length+0) (zqa rfl) rfl rfl rfl ?_
   intro H hO
   replace hO:=hO.set_r
   refine zia hO ((Γ.set j (p,rdr v2 d.2.2.1)).length+0) (zqa rfl) rfl (by omega) ?_
   exact hk _ v2 hO.left hi
 unfold dec at hd
 refine zsd ?_
 refine zaa zga ?_
 refine zha hO ((Γ.set j (p,rdr v1 (tkE xs e 1))).length+1) (zqa rfl) (show _=some (int ((zUc xs e 1:Nat):Int)) from rfl) ?_
 have kk:∀ n:Nat,((zUc xs e 1:Nat):Int)=(n:Int)↔zUc xs e 1=n:=fun n=>by omega
 by_cases k1:zUc xs e 1=1
 ·rw[if_pos k1] at hd
  repeat (first|refine oi ?_|refine wy ?_)
  refine fx (k:=1) (by omega) hb1 hO i1 ?_
  intro H v2 hO i2
  have hl2:=zEj hb1 (tkE xs e 1) 1
  have hb2:=zsb hb1 1 (tkE xs e 1)
  have hx2:=zid (tkR xs e 1) (tkE xs e 1) 1
  refine zDa (zTy (by omega)) ?_
  refine zaa zga ?_
  refine zua hO ((Γ.set j (p,rdr v2 (tkE (tkR xs e 1) (tkE xs e 1) 1))).length+1) (zqa rfl) rfl (show 0+1 < 40 by omega) (show _=chC ⟨1,zUc (tkR xs e 1) (tkE xs e 1) 1,0,slz 0,0⟩ by rw[k1]; rfl) ?_
  intro H hO
  replace hO:St H (C v2 (tkE (tkR xs e 1) (tkE xs e 1) 1) ⟨1,zUc (tkR xs e 1) (tkE xs e 1) 1,0,slz 0,0⟩):=hO.set_r
  refine zlm hO (zza (hj1 _ _)) (rv i2 _ _ _) (by omega) hb2 ?_
  intro H v3 hO i3
  unfold rdN at hO
  rw[List.set_append_left _ _ (by rw[hlen]; exact hjl),List.set_set] at hO
  have i3:=i2.trans i3
  refine zaa zRh ?_
  refine zaa zSh ?_
  rw[zGE]
  refine zxa hO ?_
  intro p5 H hO
  rw[List.append_assoc] at hO
  generalize zJk (tkR (tkR xs e 1) (tkE xs e 1) 1) (tkE (tkR xs e 1) (tkE xs e 1) 1)=rs at *
  refine zoa hO ((Γ.set j (p,rdr v3 (tkE (tkR (tkR xs e 1) (tkE xs e 1) 1) (tkE (tkR xs e 1) (tkE xs e 1) 1) 46))).length+2) (zqa rfl) rfl rfl rfl ?_
  intro H hO
  replace hO:=hO.set_r
  refine zaa zKa ?_
  refine zja (fun h=>?_) (fun h=>?_)
  ·refine zaa b41 ?_
   refine zoa hO ((Γ.set j (p,rdr v3 (tkE (tkR (tkR xs e 1) (tkE xs e 1) 1) (tkE (tkR xs e 1) (tkE xs e 1) 1) 46))).length+0) (zqa rfl) rfl rfl rfl ?_
   intro H hO
   replace hO:=hO.set_r
   refine zia hO ((Γ.set j (p,rdr v3 (tkE (tkR (tkR xs e 1) (tkE xs e 1) 1) (tkE (tkR xs e 1) (tkE xs e 1) 1) 46))).length+0) (zqa rfl) rfl (by omega) ?_
   rw[if_neg (show ¬ DOk d from fun h'=>h (by have:=h'.1; rw[hd] at this; exact this))] at hk
   subst hd
   exact hk _ v3 hO.left i3
  ·refine zia hO ((Γ.set j (p,rdr v3 (tkE (tkR (tkR xs e 1) (tkE xs e 1) 1) (tkE (tkR xs e 1) (tkE xs e 1) 1) 46))).length+2) (zqa rfl) rfl (by omega) ?_
   refine zaa zga ?_
   refine zgc hO ((Γ.set j (p,rdr v3 (tkE (tkR (tkR xs e 1) (tkE xs e 1) 1) (tkE (tkR xs e 1) (tkE xs e 1) 1) 46))).length+1) (zqa rfl) rfl (show 0+3+36≤40 by omega) rfl ?_
   intro H hO
   replace hO:=hO.set_r.keep 2
   try simp only[zla,zma]
   refine last _ v3 (by rw[hd]; exact Decidable.not_not.1 h) ?_ (by rw[hd]; exact i3)
   rw[hd]; exact hO
 rw[if_neg k1] at hd
 repeat (first|refine oi ?_|refine wn ?_)
 by_cases k2:zUc xs e 1=2
 ·rw[if_pos k2] at hd
  repeat refine wy ?_
  refine fx (k:=1) (by omega) hb1 hO i1 ?_
  intro H v2 hO i2
  have hl2:=zEj hb1 (tkE xs e 1) 1
  refine zDa (zTy (by omega)) ?_
  refine zaa zga ?_
  refine zua hO ((Γ.set j (p,rdr v2 (tkE (tkR xs e 1) (tkE xs e 1) 1))).length+1) (zqa rfl) rfl (show 0+2 < 40 by omega) (show _=chC ⟨2,0,zUc (tkR xs e 1) (tkE xs e 1) 1,slz 0,0⟩ by rw[k2]; rfl) ?_
  intro H hO
  replace hO:=hO.set_r
  try simp only[zla,zma]
  refine last _ v2 (by rw[hd]) ?_ (by rw[hd]; exact i2)
  rw[hd]; exact hO
 rw[if_neg k2] at hd
 repeat (first|refine oi ?_|refine wn ?_)
 by_cases k3:zUc xs e 1=3
 ·rw[if_pos k3] at hd
  repeat refine wy ?_
  refine fx (k:=1) (by omega) hb1 hO i1 ?_
  intro H v2 hO i2
  have hl2:=zEj hb1 (tkE xs e 1) 1
  refine zDa (zTy (by omega)) ?_
  repeat refine oi ?_
  refine zua hO ((Γ.set j (p,rdr v2 (tkE (tkR xs e 1) (tkE xs e 1) 1))).length+1) (zqa rfl) rfl (show 0+2 < 40 by omega) (show _=chC ⟨3,0,(zUc (tkR xs e 1) (tkE xs e 1) 1:Int) - 1,slz 0,0⟩ by rw[k3]; rfl) ?_
  intro H hO
  replace hO:=hO.set_r
  try simp only[zla,zma]
  refine last _ v2 (by rw[hd]) ?_ (by rw[hd]; exact i2)
  rw[hd]; exact hO
 rw[if_neg k3] at hd
 repeat (first|refine oi ?_|refine wn ?_)
 by_cases k4:zUc xs e 1=4
 ·rw[if_pos k4] at hd
  repeat refine wy ?_
  refine fx (k:=8) (by omega) hb1 hO i1 ?_
  intro H v2 hO i2
  refine zaa zga ?_
  refine zua hO ((Γ.set j (p,rdr v2 (tkE (tkR xs e 1) (tkE xs e 1) 8))).length+1) (zqa rfl) rfl (show 0+39 < 40 by omega) (show _=chC ⟨4,0,0,slz 0,zUc (tkR xs e 1) (tkE xs e 1) 8⟩ by rw[k4]; rfl) ?_
  intro H hO
  replace hO:=hO.set_r
  try simp only[zla,zma]
  refine last _ v2 (by rw[hd]) ?_ (by rw[hd]; exact i2)
  rw[hd]; exact hO
 rw[if_neg k4] at hd
 repeat refine wn ?_
 try simp only[zla,zma]
 refine last _ v1 (by rw[hd]) ?_ (by rw[hd]; exact i1)
 rw[hd]; exact hO
end
end J
set_option maxRecDepth 100000
namespace J
open Go Go.Ab
variable{H:Heap}{Γ:List (Nat × Blk)}{K:VH}{v w x:Value}{xs ys bs:List Int}{j p:Nat}{e:Int}
set_option maxHeartbeats 4000000 in
theorem zav(hO:St H Γ)(hv:RdB Γ v bs)(hx:bs.length≤1000000)(hb:By bs)(hk:Made Γ K (zZx bs)):wCall P zPi [v] H K:=by
 apply zgz; unfold zfz
 refine zLr hO hv ?_
 clear hO
 intro H pr hO
 have bad:∀ {H:Heap} {L:List (Nat × Blk)},zZx bs=([],111)→St H (Γ++L)→K (.tuple [zya,int 111].toArray) H:=fun {H L} h hO=>by
  rw[h] at hk
  exact Made.none hk hO.left
 refine zuc (k:=1) (by omega) hO (zqa (k:=0) rfl) hv.app hb ?_
 intro H v1 hO i1
 rw[Go.Ab.set_r] at hO
 replace hO:St H (Γ++[(pr,rdr v1 (tkE bs 0 1))]):=hO
 have hl1:=zEj hb 0 1
 refine zDa (zTy (by omega)) ?_
 obtain⟨m,hm⟩:∃ m,m=zUc bs 0 1:=⟨_,rfl⟩
 rw[show leV (tkB bs 0 1)=m from hm.symm] at hl1 ⊢
 unfold zZx at bad hk
 rw[← hm] at bad hk
 repeat refine oi ?_
 refine zja (fun h=>?_) (fun h=>?_)
 ·exact bad (if_neg (by omega)) hO
 rw[if_pos (by omega)] at bad hk
 refine zUq (fun k l' H'=>∃ (y:Nat) (vv v':Value) (zs:List Int) (ee:Int) (la:List Ch),y≤m∧k=m - y∧l'=[zya,int 0,ptr pr 0,v',int m,int y]∧St H' ((Γ++[(pr,rdr vv ee)])++zGa v' (chs la))∧Own 40 v' la.length (chs la)∧la.length=y∧Inh v bs vv zs∧By zs∧zs.length≤1000000∧pGo m (tkR bs 0 1) (tkE bs 0 1)=(pGo (m - y) zs ee).map fun r=>(la++r.1,r.2)) _ _ ?_ m _ _ ⟨0,v1,zya,tkR bs 0 1,tkE bs 0 1,[],by omega,by omega,rfl,?_,Own.nil,rfl,i1,zsb hb 1 0,?_,?_⟩
 rotate_left
 ·show St H ((Γ++[(pr,rdr v1 (tkE bs 0 1))])++[]); rw[List.append_nil]; exact hO
 ·have:=zid bs 0 1; omega
 ·show _=(pGo m (tkR bs 0 1) (tkE bs 0 1)).map fun r=>([]++r.1,r.2)
  cases pGo m (tkR bs 0 1) (tkE bs 0 1) <;> rfl
 clear hO
 rintro k l' H' ⟨y,vv,v',zs,ee,la,hy,rfl,rfl,hO,ho,hla,hi,hzb,hzl,hpg⟩
 unfold zYp
 try simp only[zla,zma]
 repeat refine oi ?_
 refine zja (fun h2=>?_) (fun h2=>?_)
 ·have hym:y < m:=by omega
  have hst:pGo (m - y) zs ee=if DOk (dec zs ee) then (pGo (m - (y+1)) (dec zs ee).2.1 (dec zs ee).2.2.1).map fun r=>((dec zs ee).1::r.1,r.2) else none:=by
   rw[show m - y=(m - (y+1))+1 by omega]; rfl
  refine zzp hO (zza (zqa (k:=0) rfl)) (hi _ hv).app.app hzl hzb ?_
  intro H v2 hO i2
  rw[List.set_append_left _ _ (by simp),Go.Ab.set_r] at hO
  replace hO:St H ((Γ++[(pr,rdr v2 (dec zs ee).2.2.1)])++zGa v' (chs la)):=hO
  refine zaa zRh ?_
  refine zaa zSh ?_
  rw[zRE]
  refine zxa hO ?_
  intro p7 H hO
  refine zoa hO (((Γ++[(pr,rdr v2 (dec zs ee).2.2.1)])++zGa v' (chs la)).length+0) (zqa rfl) rfl rfl rfl ?_
  intro H hO
  replace hO:St H (((Γ++[(pr,rdr v2 (dec zs ee).2.2.1)])++zGa v' (chs la))++[(p7,⟨chC (dCh zs ee).1,true⟩)]):=hO.set_r
  unfold dCh at hO ⊢
  by_cases hd:DOk (dec zs ee)
  ·rw[if_pos hd] at hO hst ⊢
   repeat (first|refine oi ?_|refine wn ?_)
   refine zia hO (((Γ++[(pr,rdr v2 (dec zs ee).2.2.1)])++zGa v' (chs la)).length+0) (zqa rfl) rfl (by omega) ?_
   refine zEa hO (bs1 _ _) ?_
   intro q H hO
   refine zYd (Γ:=Γ++[(pr,rdr v2 (dec zs ee).2.2.1)]) (St.mid hO) ho (by omega) ?_
   intro H v'' hO ho'
   repeat refine oi ?_
   refine⟨_,by omega,y+1,v2,v'',(dec zs ee).2.1,(dec zs ee).2.2.1,la++[(dec zs ee).1],by omega,rfl,rfl,hO,ho',by simp[hla],hi.trans i2,zqo hzb,?_,?_⟩
   ·have:(dec zs ee).2.1.length≤zs.length:=by
     unfold dec
     have a1:=zid zs ee 1
     split
     ·exact Nat.le_trans (zid _ _ _) (Nat.le_trans (zid _ _ _) a1)
     ·split
      ·exact Nat.le_trans (zid _ _ _) a1
      ·split
       ·exact Nat.le_trans (zid _ _ _) a1
       ·split
        ·exact Nat.le_trans (zid _ _ _) a1
        ·exact a1
    omega
   ·rw[hpg,hst,Option.map_map]
    congr 1
    funext r
    simp
  ·rw[if_neg hd] at hO hst ⊢
   repeat (first|refine oi ?_|refine wy ?_)
   try simp only[zla,zma]
   rw[hst] at hpg
   rw[hpg] at bad
   exact bad rfl hO.left.left
 ·have e:y=m:=by omega
  subst e
  rw[show y - y=0 by omega] at hpg
  have hpg:pGo y (tkR bs 0 1) (tkE bs 0 1)=some (la++[],zs,ee):=hpg
  rw[List.append_nil] at hpg
  rw[hpg] at bad hk
  repeat refine cy ?_
  try simp only[zla,zma]
  refine zgA hO (zza (zqa (k:=0) rfl)) (hi _ hv).app.app ?_
  refine zaa zKa ?_
  refine zja (fun h3=>?_) (fun h3=>?_)
  ·exact bad (if_neg h3) hO.left
  ·have hk:Made Γ K (la,0):=by
    have:=hk
    simp only at this
    rw[if_pos (Decidable.not_not.1 h3)] at this
    exact this
   exact hk _ v' (St.mid hO) ho
end J
set_option maxRecDepth 100000
namespace J
open Go Go.Ab
section
variable{xs ys bs:List Int}{e:Int}{c:Ch}{l:List Ch}{k n:Nat}
theorem zgC(hb:By xs)(i:Nat):0≤(zKj xs).dg i∧(zKj xs).dg i≤255:=by
 show 0≤((xs.drop 14).take 32).getD i 0∧((xs.drop 14).take 32).getD i 0≤255
 rw[List.getD_eq_getElem?_getD]
 cases h:((xs.drop 14).take 32)[i]? with
 | none=>exact⟨by show (0:Int)≤0; omega,by show (0:Int)≤255; omega⟩
 | some y=>exact hb y (List.mem_of_mem_drop (List.mem_of_mem_take (List.mem_of_getElem? h)))
def CBy(c:Ch):Prop:=(∀ i,0≤c.to.dg i∧c.to.dg i≤255)∧0≤c.ver
theorem zhJ(hb:By xs)(i:Nat):0≤(zJk xs e).1.dg i∧(zJk xs e).1.dg i≤255:=by
 have z:0≤(slz 0).dg i∧(slz 0).dg i≤255:=⟨by show (0:Int)≤0; omega,by show (0:Int)≤255; omega⟩
 unfold zJk
 split
 ·exact z
 ·split
  ·exact zgC (RdB.bytes hb 46 e) i
  ·exact z
theorem zoL(hb:By xs):CBy (dec xs e).1:=by
 have z:∀ i,0≤(slz 0).dg i∧(slz 0).dg i≤255:=fun i=>⟨by show (0:Int)≤0; omega,by show (0:Int)≤255; omega⟩
 unfold dec
 split
 ·exact⟨zhJ (zsb (zsb hb _ _) _ _),Int.le_refl _⟩
 ·split
  ·exact⟨z,Int.le_refl _⟩
  ·split
   ·exact⟨z,Int.le_refl _⟩
   ·split
    ·exact⟨z,Int.natCast_nonneg _⟩
    ·exact⟨z,Int.le_refl _⟩
theorem zhC:∀ (k:Nat) (xs:List Int) (e:Int),By xs→∀ c ∈ (rGo k xs e).1,CBy c
 | 0,_,_,_=>fun c hc=>(by cases hc)
 | k+1,xs,e,hb=>fun c hc=>by
  rcases List.mem_cons.1 hc with rfl|hc
  ·exact zoL hb
  ·exact zhC k _ _ (zqo hb) c hc
theorem By.app{xs ys:List Int}(h:By xs)(h2:By ys):By (xs++ys):=fun x hx=>by
 rcases List.mem_append.1 hx with hx|hx
 ·exact h x hx
 ·exact h2 x hx
theorem zzi(y n:Nat):By (leN y n):=by
 intro x hx
 obtain⟨i,_,rfl⟩:=List.mem_map.1 hx
 have:n / 256 ^ i % 256 < 256:=Nat.mod_lt _ (by omega)
 omega
theorem ziC{s:Sl}(h:∀ i,0≤s.dg i∧s.dg i≤255):By (zIA s):=by
 unfold zIA
 split
 ·unfold sBy
  refine (((((zzi _ _).app (zzi _ _)).app (zzi _ _)).app (zzi _ _)).app ?_)
  intro x hx
  obtain⟨i,_,rfl⟩:=List.mem_map.1 hx
  exact h i
 ·exact fun x hx=>(by cases hx)
theorem zJM{c:Ch}(h:CBy c):By (cBy c):=by
 unfold cBy
 refine (zzi _ _).app ?_
 split
 ·exact (zzi _ _).app (ziC h.1)
 ·split
  ·exact zzi _ _
  ·split
   ·exact zzi _ _
   ·exact zzi _ _
theorem zJD(h:∀ c ∈ l,CBy c):By (lBy l):=by
 unfold lBy
 split
 ·refine (zzi _ _).app ?_
  intro x hx
  obtain⟨c,hc,hx⟩:=List.mem_flatMap.1 hx
  exact zJM (h c hc) x hx
 ·exact fun x hx=>(by cases hx)
theorem ziJ{a b:Int}(ha:0≤a∧a≤255)(hb:0≤b∧b≤255)(h:UInt8.ofNat a.toNat=UInt8.ofNat b.toNat):a=b:=by
 have:=congrArg UInt8.toNat h
 rw[UInt8.toNat_ofNat',UInt8.toNat_ofNat'] at this
 rw[Nat.mod_eq_of_lt (by omega),Nat.mod_eq_of_lt (by omega)] at this
 omega
theorem bytes_inj:∀ {xs ys:List Int},By xs→By ys→(xs.map fun n=>UInt8.ofNat n.toNat)=ys.map (fun n=>UInt8.ofNat n.toNat)→xs=ys
 | [],[],_,_,_=>rfl
 | [],_::_,_,_,h=>by cases h
 | _::_,[],_,_,h=>by cases h
 | x::xs,y::ys,hx,hy,h=>by
  simp only[List.map_cons,List.cons.injEq] at h
  rw[ziJ (hx x List.mem_cons_self) (hy y List.mem_cons_self) h.1,bytes_inj (fun z hz=>hx z (List.mem_cons_of_mem _ hz)) (fun z hz=>hy z (List.mem_cons_of_mem _ hz)) h.2]
theorem zpL(t:TypeId)(c:Bool)(hx:By xs)(hy:By ys):(zsa P .neq t c).f (zLp xs) (zLp ys)=some (.bool (decide (xs≠ys))):=by
 show some (Value.bool !((xs.map fun n=>UInt8.ofNat n.toNat) == ys.map fun n=>UInt8.ofNat n.toNat))=_
 by_cases h:xs=ys
 ·subst h
  rw[decide_eq_false (fun h=>h rfl),show ((xs.map fun n=>UInt8.ofNat n.toNat) == xs.map fun n=>UInt8.ofNat n.toNat)=true from beq_self_eq_true _]; rfl
 ·rw[decide_eq_true h]
  have:((xs.map fun n=>UInt8.ofNat n.toNat) == ys.map fun n=>UInt8.ofNat n.toNat)=false:=by
   cases hb:((xs.map fun n=>UInt8.ofNat n.toNat) == ys.map fun n=>UInt8.ofNat n.toNat) with
   | false=>rfl
   | true=>exact absurd (bytes_inj hx hy (eq_of_beq hb)) h
  rw[this]; rfl
theorem zqL:(dec xs e).2.1.length≤xs.length:=by
 unfold dec
 have a1:=zid xs e 1
 split
 ·exact Nat.le_trans (zid _ _ _) (Nat.le_trans (zid _ _ _) a1)
 ·split
  ·exact Nat.le_trans (zid _ _ _) a1
  ·split
   ·exact Nat.le_trans (zid _ _ _) a1
   ·split
    ·exact Nat.le_trans (zid _ _ _) a1
    ·exact a1
end
section
variable{H:Heap}{Γ:List (Nat × Blk)}{K:VH}{v w x:Value}{xs ys bs:List Int}{j p:Nat}{e:Int}
end
end J
set_option maxRecDepth 100000
namespace J
open Go Go.Ab
variable{xs ys zs bs:List Int}{e:Int}{c:Ch}{l:List Ch}{k n:Nat}{s s':Sl}{t:Tb}
theorem zrL(h:slC s=slC s'):s.st=s'.st∧s.tr=s'.tr∧s.ver=s'.ver∧s.sz=s'.sz∧dgC s.dg=dgC s'.dg:=by
 have h:int s.st::int s.tr::.int .u64 s.ver::int s.sz::dgC s.dg=int s'.st::int s'.tr::.int .u64 s'.ver::int s'.sz::dgC s'.dg:=h
 simp only[List.cons.injEq,Value.int.injEq,true_and] at h
 exact h
theorem zkA(h:slC s=slC s'):SRight s↔SRight s':=by
 obtain⟨h1,h2,h3,h4,h5⟩:=zrL h
 unfold SRight zHk zIk Dz
 rw[h1,h2,h3,h4,h5]
theorem zjJ(h:slC s=slC s'):SZ s↔SZ s':=by
 unfold SZ SEq
 rw[h]
theorem zlA{c c':Ch}(h1:c.kind=c'.kind)(h2:c.slot=c'.slot)(h3:c.n=c'.n)(h4:c.ver=c'.ver)(h:slC c.to=slC c'.to):zTa c↔zTa c':=by
 unfold zTa
 rw[h1,h2,h3,h4,zkA h,zjJ h]
theorem zSJ(h:TRight t):tBy t=sBy t.a++sBy t.b++leN 1 t.act.toNat++leN 1 (t.boo+1).toNat++leN 8 t.flo.toNat:=if_pos h
theorem zkH(h:TRight t):(tBy t).length=102:=by rw[zSJ h]; simp[zch,zhb]
end J
set_option maxRecDepth 100000
namespace J
open Go Go.Ab
variable{H:Heap}{Γ G:List (Nat × Blk)}{K:VH}{v w x:Value}{xs ys bs:List Int}{j p:Nat}{e:Int}{l:List Ch}{t:Tb}
def InG(G:List (Nat × Blk))(p:Nat)(cs:List Value):Prop:=∃ (j:Nat),G[j]?=some (p,(⟨cs,true⟩:Blk))
theorem InG.app{Δ:List (Nat × Blk)}{cs:List Value}(h:InG G p cs):InG (G++Δ) p cs:=by
 obtain⟨j,h⟩:=h
 exact⟨j,zza h⟩
theorem InG.last{cs:List Value}:InG (G++[(p,⟨cs,true⟩)]) p cs:=⟨G.length+0,zqa rfl⟩
theorem zlH(h:¬ TRight t):tBy t=[]:=if_neg h
theorem zmH(ha:∀ i,0≤t.a.dg i∧t.a.dg i≤255)(hb:∀ i,0≤t.b.dg i∧t.b.dg i≤255):By (tBy t):=by
 by_cases h:TRight t
 ·rw[zSJ h,← zve h.1,← zve h.2.1]
  exact ((((ziC ha).app (ziC hb)).app (zzi _ _)).app (zzi _ _)).app (zzi _ _)
 ·rw[zlH h]; intro x hx; cases hx
end J
set_option linter.unusedSimpArgs false
set_option maxRecDepth 100000
namespace J
open Go Go.Ab
variable{H:Heap}{Γ Γ0 Γ2 Δ M G:List (Nat × Blk)}{K:VH}{v w x:Value}{xs ys bs body:List Int}{j p:Nat}{e:Int}{ss tt bb:List (List Int)}
variable{L:Mloc}{m:Mp}{s:List Int}{pj ps A B k:Nat}{jn:Jn}{vals cs:List Value}{t next first:Tb}{l:List Ch}
theorem _root_.Go.Ab.St.in2{M A' B' C':List (Nat × Blk)}(h:St H ((((Γ0++M)++A')++B')++C')):St H ((((Γ0++C')++M)++A')++B'):=h.perm (by
 have e1:((((Γ0++M)++A')++B')++C')=Γ0++((M++(A'++B'))++C'):=by simp
 have e2:((((Γ0++C')++M)++A')++B')=Γ0++(C'++(M++(A'++B'))):=by simp
 rw[e1,e2]
 exact List.Perm.append_left _ List.perm_append_comm)
theorem _root_.Go.Ab.St.drop1{D A' B' C':List (Nat × Blk)}(h:St H ((((Γ0++D)++A')++B')++C')):St H (((Γ0++A')++B')++C'):=
 h.sub (List.Sublist.append (List.Sublist.append (List.Sublist.append (List.sublist_append_left _ _) (List.Sublist.refl _)) (List.Sublist.refl _)) (List.Sublist.refl _))
def RdV(Γ:List (Nat × Blk))(v:Value)(vs:List Value):Prop:=(v=zya∧vs=[])∨∃ (p c j:Nat) (w:Bool),v=sl p 0 vs.length c∧Γ[j]?=some (p,(⟨vs,w⟩:Blk))∧(c=2∨c=3)
theorem RdV.app{l:List Value}(h:RdV Γ v l):RdV (Γ++Δ) v l:=by
 rcases h with h|⟨p,c,j,w,h1,h2⟩
 ·exact .inl h
 ·exact .inr ⟨p,c,j,w,h1,zza h2.1,h2.2⟩
theorem RdV.app'{l:List Value}(h:RdV Δ v l):RdV (Γ++Δ) v l:=by
 rcases h with h|⟨p,c,j,w,h1,h2⟩
 ·exact .inl h
 ·exact .inr ⟨p,c,Γ.length+j,w,h1,zqa h2.1,h2.2⟩
theorem RdV.own{n:Nat}(h:Own 1 v n vals):RdV (zGa v vals) v vals:=by
 rcases h with⟨rfl,_,rfl⟩|⟨p,hv,hl⟩
 ·exact .inl ⟨rfl,rfl⟩
 ·have hl:vals.length=n:=by rw[hl,Nat.mul_one]
  subst hl
  rcases hv with rfl|rfl
  ·exact .inr ⟨p,_,0,true,rfl,rfl,.inl rfl⟩
  ·exact .inr ⟨p,_,0,true,rfl,rfl,.inr rfl⟩
theorem RdV.lenSl(h:RdV Γ v vals):Ab.lenSl v H=some (int vals.length,H):=by
 rcases h with⟨rfl,rfl⟩|⟨p,c,j,w,rfl,_⟩ <;> rfl
def tGo:Tb→List (List Int)→Tb
 | t,[]=>t
 | t,b::r=>if (zZx b).2≠0 then t else if (zZa t (zZx b).1).2≠0 then t else tGo (zZa t (zZx b).1).1 r
theorem zby{b:List Int}{r:List (List Int)}:tGo t (b::r)=if (zZx b).2≠0 then t else if (zZa t (zZx b).1).2≠0 then t else tGo (zZa t (zZx b).1).1 r:=rfl
def zQd(bodies:List (List Int))(first:Tb):Tb:=match bodies with
 | []=>first
 | b::r=>if (zzd b).2≠0 then first else tGo (zzd b).1 r
theorem zKD(bs:List Int)(hb:By bs):(zZx bs).1.length≤8:=by
 unfold zZx
 split
 ·rename_i h8
  by_cases h1:1≤bs.length
  ·obtain⟨a1,a2,a3⟩:=zDf h1
   rw[a2,a3]
   cases hp:pGo (zUc bs 0 1) (bs.drop 1) 0 with
   | none=>simp
   | some r=>
    obtain⟨_,i2,_,_⟩:=zro _ _ _ (fun x hx=>hb x (List.mem_of_mem_drop hx)) hp
    have:r.1.length=zUc bs 0 1:=by rw[← i2]; exact zVt _ _ _
    simp only
    split
    ·show r.1.length≤8; omega
    ·simp
  ·obtain⟨a1,a2,a3⟩:=zdf (by omega:bs.length < 1)
   have a4:zUc bs 0 1=0:=by unfold zUc; rw[a1]; rfl
   rw[a4]
   show (if zZu (tkR bs 0 1) (tkE bs 0 1)=0 then (([]:List Ch),(0:Int)) else ([],111)).1.length≤8
   split <;> simp
 ·simp
theorem zsL(b:List Int)(hb:By b):(zZx b).1.length≤8:=zKD b hb
set_option maxHeartbeats 2000000 in
theorem zjC(hO:St H Γ)(hv:RdV Γ v vals)(hr:RdBs Γ vals bb)(hb:∀ b ∈ bb,By b)(hl:bb.length≤1000)(hx:∀ b ∈ bb,b.length≤1000000)
  (hk:∀ H',St H' Γ→K (agg (tbC (zQd bb first))) H'):wCall P zIf [v,agg (tbC first)] H K:=by
 apply zTs; unfold zTp
 have el:=hr.1
 refine zxa hO ?_
 clear hO
 intro p3 H hO
 rw[zdH]
 refine zxa hO ?_
 clear hO
 intro p4 H hO
 rw[List.append_assoc] at hO
 replace hO:St H (Γ++[(p3,⟨tbC first,true⟩),(p4,⟨tbC tbz,true⟩)]):=hO
 refine zDa hv.lenSl ?_
 refine zaa zfb ?_
 refine zja (fun h=>?_) (fun h=>?_)
 ·have:bb=[]:=List.length_eq_zero_iff.1 (by omega)
  subst this
  refine zia hO (Γ.length+0) (zqa rfl) rfl (by omega) ?_
  refine zoa hO (Γ.length+1) (zqa rfl) rfl rfl rfl ?_
  clear hO
  intro H hO
  replace hO:=hO.set_r
  refine zia hO (Γ.length+1) (zqa rfl) rfl (by omega) ?_
  exact hk _ hO.left
 rcases hv with⟨_,rfl⟩|⟨pv,c,jv,wv,rfl,hj,hc⟩
 ·simp at h
 match bb,vals,el,hr,hb,hl,hx,hk,hj,h with
 | [],vals,el,hr,hb,hl,hx,hk,hj,h=>rw[el] at h; exact absurd rfl h
 | b0::r,[],el,hr,hb,hl,hx,hk,hj,h=>simp at el
 | b0::r,v0::vr,el,hr,hb,hl,hx,hk,hj,h=>
 have hn:(v0::vr).length=vr.length+1:=rfl
 have er:vr.length=r.length:=by simpa using el
 have hr0:RdB Γ v0 b0:=hr.2 0 (by simp) (by simp)
 have hrr:∀ i (h:i < vr.length) (h':i < r.length),RdB Γ vr[i] r[i]:=fun i g1 g2=>hr.2 (i+1) (by simpa using g1) (by simpa using g2)
 have hb0:=hb b0 List.mem_cons_self
 have hbr:∀ b ∈ r,By b:=fun b h=>hb b (List.mem_cons_of_mem _ h)
 have hxr:∀ b ∈ r,b.length≤1000000:=fun b h=>hx b (List.mem_cons_of_mem _ h)
 have hx0:=hx b0 List.mem_cons_self
 have hl:r.length+1≤1000:=hl
 refine zaa (zHa (by omega) (by rw[hn]; omega)) ?_
 refine zha hO jv (zza hj) (v:=v0) rfl ?_
 refine ztr hO hr0.app hx0 hb0 ?_
 clear hO
 intro H hO
 refine zaa zRh ?_
 refine zaa zSh ?_
 unfold zQd at hk
 simp only at hk
 refine zxa hO ?_
 clear hO
 intro p5 H hO
 rw[List.append_assoc] at hO
 refine zoa hO (Γ.length+2) (zqa rfl) rfl rfl rfl ?_
 clear hO
 intro H hO
 replace hO:St H (Γ++[(p3,⟨tbC first,true⟩),(p4,⟨tbC tbz,true⟩),(p5,⟨tbC (zzd b0).1,true⟩)]):=hO.set_r
 refine zaa zKa ?_
 refine zja (fun h2=>?_) (fun h2=>?_)
 ·rw[if_pos h2] at hk
  refine zia hO (Γ.length+0) (zqa rfl) rfl (by omega) ?_
  refine zoa hO (Γ.length+1) (zqa rfl) rfl rfl rfl ?_
  clear hO
  intro H hO
  replace hO:=hO.set_r
  refine zia hO (Γ.length+1) (zqa rfl) rfl (by omega) ?_
  exact hk _ hO.left
 rw[if_neg h2] at hk
 generalize (zzd b0).1=T0 at *
 have hsl:∃ c',zLa 1 (sl pv 0 (vr.length+1) c) (some (.int .i64 1)) none none=some (sl pv 1 vr.length c'):=by
  rcases hc with rfl|rfl
  ·refine⟨2,?_⟩
   unfold zLa
   have hb:zdd (vr.length+1) (some (.int .i64 1))=some 1:=zSB (n:=1) (by omega)
   simp only[zpc,hb]
   simp[zGj,zqc]
  ·refine⟨3,?_⟩
   unfold zLa
   have hb:zdd (vr.length+1) (some (.int .i64 1))=some 1:=zSB (n:=1) (by omega)
   simp only[zpc,hb]
   simp[zGj,zqc]
 obtain⟨c',hsl⟩:=hsl
 refine zaa hsl ?_
 refine zDa (show lenSl (sl pv 1 vr.length c') H=some (int vr.length,H) from rfl) ?_
 refine zFm (fun k l' H'=>∃ (y:Nat) (T:Tb),y≤vr.length∧k=vr.length - y∧l'=[ptr p4 0,ptr p5 0,sl pv 1 vr.length c',int vr.length,int y]∧St H' (Γ++[(p3,⟨tbC first,true⟩),(p4,⟨tbC tbz,true⟩),(p5,⟨tbC T,true⟩)])∧tGo T0 r=tGo T (r.drop y)) _ _ ?_ vr.length _ _ ⟨0,T0,by omega,rfl,rfl,hO,rfl⟩
 clear hO
 rintro k l' H ⟨y,T,hy,rfl,rfl,hO,hgo⟩
 unfold zik
 try simp only[zla,zma]
 refine zaa zMa ?_
 refine zja (fun h3=>?_) (fun h3=>?_)
 ·have hyl:y < vr.length:=by omega
  have hyr:y < r.length:=by omega
  rw[List.drop_eq_getElem_cons hyr] at hgo
  have hby:=hbr _ (List.getElem_mem hyr)
  rw[zby] at hgo
  refine zaa (zHa (by omega) (by omega)) ?_
  refine zha hO jv (zza hj) (v:=vr[y]) (by rw[Int.toNat_natCast]; simp[hyl,Nat.add_comm]) ?_
  refine zav hO (hrr y hyl hyr).app (hxr _ (List.getElem_mem hyr)) hby ?_
  have hgl:=zsL r[y] hby
  clear hO
  intro H vg hO hvg
  refine zaa zRh ?_
  refine zaa zSh ?_
  refine zaa zKa ?_
  refine zja (fun h4=>?_) (fun h4=>?_)
  ·rw[if_pos h4] at hgo
   rw[hgo] at hk
   refine zia hO (Γ.length+2) (zza (zqa rfl)) rfl (by omega) ?_
   refine zoa hO (Γ.length+1) (zza (zqa rfl)) rfl rfl rfl ?_
   clear hO
   intro H hO
   rw[List.set_append_left _ _ (by simp),Go.Ab.set_r] at hO
   try simp only[zla,zma]
   refine zia hO (Γ.length+1) (zza (zqa rfl)) rfl (by omega) ?_
   exact hk _ hO.left.left
  rw[if_neg h4] at hgo
  refine zia hO (Γ.length+2) (zza (zqa rfl)) rfl (by omega) ?_
  refine zDj hO (RdC.own hvg).app' (by omega) ?_
  clear hO
  intro H hO
  refine zaa zRh ?_
  refine zaa zSh ?_
  replace hO:=hO.left
  refine zxa hO ?_
  clear hO
  intro p11 H hO
  refine zoa hO (_+0) (zqa rfl) rfl rfl rfl ?_
  clear hO
  intro H hO
  replace hO:=hO.set_r
  refine zaa zKa ?_
  refine zja (fun h5=>?_) (fun h5=>?_)
  ·rw[if_pos h5] at hgo
   rw[hgo] at hk
   refine zia hO (Γ.length+2) (zza (zqa rfl)) rfl (by omega) ?_
   refine zoa hO (Γ.length+1) (zza (zqa rfl)) rfl rfl rfl ?_
   clear hO
   intro H hO
   rw[List.set_append_left _ _ (by simp),Go.Ab.set_r] at hO
   try simp only[zla,zma]
   refine zia hO (Γ.length+1) (zza (zqa rfl)) rfl (by omega) ?_
   exact hk _ hO.left.left
  rw[if_neg h5] at hgo
  refine zia hO (_+0) (zqa rfl) rfl (by omega) ?_
  refine zoa hO (Γ.length+2) (zza (zqa rfl)) rfl rfl rfl ?_
  clear hO
  intro H hO
  rw[List.set_append_left _ _ (by simp),Go.Ab.set_r] at hO
  replace hO:=hO.left
  refine zaa (v:=int ((y+1:Nat):Int)) (by rw[show ((y+1:Nat):Int)=(y:Int)+1 by omega]; exact zxb (by omega) (by omega)) ?_
  exact⟨_,by omega,y+1,_,by omega,rfl,rfl,hO,hgo⟩
 ·have ey:y=r.length:=by omega
  rw[ey,List.drop_length] at hgo
  have hgo:tGo T0 r=T:=hgo
  rw[hgo] at hk
  refine zgb rfl ?_
  try simp only[zla,zma]
  refine zia hO (Γ.length+2) (zqa rfl) rfl (by omega) ?_
  refine zoa hO (Γ.length+1) (zqa rfl) rfl rfl rfl ?_
  clear hO
  intro H hO
  replace hO:=hO.set_r
  refine zia hO (Γ.length+1) (zqa rfl) rfl (by omega) ?_
  exact hk _ hO.left
abbrev SB(ps pj:Nat)(t:Tb):List (Nat × Blk):=[(ps,⟨ptr pj 0::tbC t,true⟩)]
theorem zKM(pj:Nat)(t:Tb):(zAa P 109).f [(0,ptr pj 0),(1,agg (tbC t))]=some (agg (ptr pj 0::tbC t)):=by kernel_rfl
theorem zHE(ok:m.Ok)(h0:∀ s ∈ m.secs 0,By s)(h1:∀ s ∈ m.secs 1,By s)(hbb:∀ x ∈ (zvc m 0 1).bodies,By x)(hbl:(zvc m 0 1).bodies.length≤1000)(hbx:∀ x ∈ (zvc m 0 1).bodies,x.length≤1000000)
  (hf:TRight first) (hO:St H (Γ++MW L m))
  (hk:∀ H' Δ ps pj,St H' ((((Γ++Δ)++SB ps pj (zQd (zvc m 0 1).bodies first))++JB pj L.pm (zRm m 0 1))++MW L m)→K (.tuple [ptr ps 0,int 0].toArray) H'):wCall P zYj [ptr L.pm 0,int 0,int 1,agg (tbC first)] H K:=by
 apply zbx; unfold zGv
 refine zxa hO ?_
 clear hO
 intro p7 H hO
 refine zia hO (_+0) (zqa rfl) (cs:=tbC first) rfl (by omega) ?_
 refine zad hO ?_
 clear hO
 intro H hO
 rw[decide_eq_true hf]
 refine zaa zyc ?_
 refine zFe rfl ?_
 replace hO:St H ((Γ++[(p7,⟨tbC first,true⟩)])++MW L m):=hO.rot
 refine zDE ok h0 h1 hO ?_
 clear hO
 intro H Δ vb vals pj hO obs
 refine zaa zRh ?_
 refine zaa zSh ?_
 refine zia hO (Γ.length+0) (zza (zza (zza (zza (zqa rfl))))) rfl (by omega) ?_
 generalize (zvc m 0 1).bodies=bb at *
 have rdv:RdV (((((Γ++[(p7,(⟨tbC first,true⟩:Blk))])++Δ)++zGa vb vals)++JB pj L.pm (zRm m 0 1))++MW L m) vb vals:=(RdV.own obs.o).app'.app.app
 have rdb:RdBs (((((Γ++[(p7,(⟨tbC first,true⟩:Blk))])++Δ)++zGa vb vals)++JB pj L.pm (zRm m 0 1))++MW L m) vals bb:=(obs.r.app').app.app.app
 refine zjC hO rdv rdb hbb hbl hbx ?_
 clear hO
 intro H hO
 refine zaa (zKM _ _) ?_
 refine zxa hO ?_
 clear hO
 intro ps H hO
 refine hk H ([(p7,⟨tbC first,true⟩)]++(Δ++zGa vb vals)) ps pj ?_
 refine hO.perm ?_
 show ((((((Γ++[(p7,(⟨tbC first,true⟩:Blk))])++Δ)++zGa vb vals)++JB pj L.pm (zRm m 0 1))++MW L m)++SB ps pj (zQd bb first)).Perm _
 generalize SB ps pj (zQd bb first)=S
 generalize JB pj L.pm (zRm m 0 1)=Y
 generalize MW L m=Z
 generalize [(p7,(⟨tbC first,true⟩:Blk))]=D1
 have e1:(((((Γ++D1)++Δ)++zGa vb vals)++Y)++Z)++S=(Γ++(D1++(Δ++zGa vb vals)))++((Y++Z)++S):=by simp
 have e2:(((Γ++(D1++(Δ++zGa vb vals)))++S)++Y)++Z=(Γ++(D1++(Δ++zGa vb vals)))++(S++(Y++Z)):=by simp
 rw[e1,e2]
 exact List.Perm.append_left _ List.perm_append_comm
theorem zXt{j:Nat}(hO:St H Γ)(hj:Γ[j]?=some (ps,⟨ptr pj 0::tbC t,true⟩))(hk:∀ H',St H' Γ→K (agg (tbC t)) H'):wCall P zKc [ptr ps 0] H K:=by
 apply zkl; unfold zci
 rw[zdH]
 refine zxa hO ?_
 clear hO
 intro p2 H hO
 refine zaa zfa ?_
 refine zaa zga ?_
 refine zBa hO j (zza hj) (show _=tbC t from ?_) rfl (by omega) ?_
 ·rfl
 refine zoa hO (_+0) (zqa rfl) rfl rfl rfl ?_
 clear hO
 intro H hO
 replace hO:=hO.set_r
 refine zia hO (_+0) (zqa rfl) rfl (by omega) ?_
 exact hk _ hO.left
theorem zkC{j:Nat}(hO:St H Γ)(hj:Γ[j]?=some (pj,⟨jv L.pm jn,true⟩))(hk:K (.bool jn.ready) H):wCall P zOc [ptr pj 0] H K:=by
 apply zki; unfold zSf
 refine zaa zfa ?_
 refine zaa zga ?_
 exact zha hO j hj (v:=.bool jn.ready) rfl hk
noncomputable def zeh(jn:Jn)(m:Mp)(next:Tb)(l:List Ch):Jn × Mp × Int:=
 if jn.ready=true∧(zkb jn m (lBy l)).2.2≠92 then zkb jn m (lBy l) else zXc jn m (tBy next)
theorem zYt{body:List Int}(h:(zkb jn m body).2.2=92)(hz:∀ a l,(zDc a jn.pos l m).2≠92):(zkb jn m body).1=jn∧(zkb jn m body).2.1=m:=by
 unfold zkb at h ⊢
 split at h
 ·cases h
 rename_i h1
 rw[if_neg h1]
 simp only at h ⊢
 split at h
 ·rename_i h2
  rw[if_pos h2]
  exact⟨rfl,rfl⟩
 ·split at h
  ·exact absurd h (hz _ _)
  ·cases h
theorem znH{d:Dv}{a:Int}{s:List Int}:(d.program a s).2=0∨(d.program a s).2=61∨(d.program a s).2=62∨(d.program a s).2=63:=by
 unfold Dv.program
 split; simp
 split; simp
 split; simp
 split <;> simp
theorem zLM{d:Dv}:d.sync.2=0∨d.sync.2=62:=by
 unfold Dv.sync
 split; simp
 split <;> simp
theorem ztL{a b:Int}:(m.place a b).2=0∨(m.place a b).2=71∨(m.place a b).2=61:=by
 unfold Mp.place
 split; simp
 split <;> simp
theorem zcy{b:Int}:∀ (l:List (List Int)) (a:Int) (m:Mp),(zDc b a l m).2≠92
 | [],a,m=>by
  show m.d.sync.2≠92
  rcases zLM (d:=m.d) with h|h <;> rw[h] <;> decide
 | s::r,a,m=>by
  rw[zie]
  split
  ·unfold Mp.program
   split
   ·rcases ztL (m:=m) (a:=b) (b:=a) with h|h|h <;> rw[h] <;> decide
   ·show (m.d.program _ s).2≠92
    rcases znH (d:=m.d) (a:=(m.place b a).1) (s:=s) with h|h|h|h <;> rw[h] <;> decide
  ·exact zcy r _ _
set_option maxHeartbeats 2000000 in
theorem zoH{N:Nat}(ok:m.Ok)(jok:jn.Ok)(hsm:m.Sm N)(hN:N+20000≤1000000)(hv:RdC Γ v l)(hl:l.length≤1000)(hver:∀ c ∈ l,0≤c.ver)(hf:0≤next.flo)(hb1:By (lBy l))(hb2:By (tBy next))
  (hO:St H (((Γ++SB ps pj t)++JB pj L.pm jn)++MW L m)) (how:Mown L m)
  (hk:∀ H' L',L.Eq L'→St H' (((Γ++SB ps pj t)++JB pj L'.pm (zeh jn m next l).1)++MW L' (zeh jn m next l).2.1)→Mown L' (zeh jn m next l).2.1→K (int (zeh jn m next l).2.2) H') :
  wCall P zKe [ptr ps 0,agg (tbC next),v] H K:=by
 apply zIm; unfold zvj
 have htl:(tBy next).length≤1000000:=by
  by_cases h:TRight next
  ·rw[zkH h]; omega
  ·rw[zlH h]; simp
 refine zxa hO ?_
 clear hO
 intro p4 H hO
 replace hO:=St.in2 hO
 replace hO:St H ((((Γ++[(p4,⟨tbC next,true⟩)])++SB ps pj t)++JB pj L.pm jn)++MW L m):=hO
 have his:∀ {R R1 R2:List (Nat × Blk)},(((((Γ++R)++SB ps pj t)++R1)++R2))[(Γ++R).length+0]?=some (ps,⟨ptr pj 0::tbC t,true⟩):=zza (zza (zqa rfl))
 refine zwa (fun l' H'=>l'=[ptr ps 0,ptr p4 0]∧¬ (jn.ready=true∧(zkb jn m (lBy l)).2.2≠92)∧∃ L2,L.Eq L2∧Mown L2 m∧St H' ((((Γ++[(p4,⟨tbC next,true⟩)])++SB ps pj t)++JB pj L2.pm jn)++MW L2 m)) ?_ ?_
 ·refine zaa zfa ?_
  refine zaa zga ?_
  refine zha hO _ his (v:=ptr pj 0) rfl ?_
  refine zkC hO (j:=((Γ++[(p4,(⟨tbC next,true⟩:Blk))])++SB ps pj t).length+0) (zza (zqa rfl)) ?_
  refine zLb (fun h=>?_) (fun h=>?_)
  ·refine zaa zfa ?_
   refine zaa zga ?_
   refine zha hO _ his (v:=ptr pj 0) rfl ?_
   refine zYu hO hv.app.app.app.app hl hver ?_
   intro H2 vp cp hO2 hp
   refine⟨zmb hO _ his hO2 _ (zza his) (by rfl),?_⟩
   clear hO
   replace hO2:=St.in2 hO2
   replace hO2:St H2 (((((Γ++[(p4,⟨tbC next,true⟩)])++zGa vp cp)++SB ps pj t)++JB pj L.pm jn)++MW L m):=hO2
   refine zZz ok jok hsm (by omega) hp.rd.app'.app hb1 hO2 how ?_
   clear hO2
   intro H3 L3 he hO3 how3
   refine zaa zKa ?_
   refine zja (fun h2=>?_) (fun h2=>?_)
   ·have ek:zeh jn m next l=zkb jn m (lBy l):=if_pos ⟨h,h2⟩
    rw[ek] at hk
    exact hk _ L3 he (St.drop1 (D:=[(p4,(⟨tbC next,true⟩:Blk))]++zGa vp cp) (by rw[← List.append_assoc Γ]; exact hO3)) how3
   ·have hfu:=zYt (Decidable.not_not.1 h2) (fun a l=>zcy l _ _)
    rw[hfu.1,hfu.2] at hO3
    rw[hfu.2] at how3
    exact⟨rfl,fun h4=>h4.2 (Decidable.not_not.1 h2),L3,he,how3,St.drop1 (D:=zGa vp cp) hO3⟩
  ·exact⟨rfl,(fun h4=>by rw[h] at h4; cases h4.1),L,Mloc.Eq.rfl',how,hO⟩
 clear hO
 rintro l' H ⟨rfl,hn,L2,he2,how2,hO⟩
 try simp only[zla,zma]
 have ek:zeh jn m next l=zXc jn m (tBy next):=if_neg hn
 rw[ek] at hk
 refine zaa zfa ?_
 refine zaa zga ?_
 refine zha hO _ his (v:=ptr pj 0) rfl ?_
 refine zia hO (Γ.length+0) (zza (zza (zza (zqa rfl)))) rfl (by omega) ?_
 refine zsr hO hf ?_
 intro H2 vp cp hO2 hp
 refine⟨zmb hO _ his hO2 _ (zza his) (by rfl),?_⟩
 clear hO
 replace hO2:=St.in2 hO2
 replace hO2:St H2 (((((Γ++[(p4,⟨tbC next,true⟩)])++zGa vp cp)++SB ps pj t)++JB pj L2.pm jn)++MW L2 m):=hO2
 refine zYB ok jok hsm (by omega) hp.rd.app'.app hb2 htl hO2 how2 ?_
 clear hO2
 intro H3 L3 he hO3 how3
 exact hk _ L3 (he2.trans he) (St.drop1 (D:=[(p4,(⟨tbC next,true⟩:Blk))]++zGa vp cp) (by rw[← List.append_assoc Γ]; exact hO3)) how3
noncomputable def tDo(t:Tb)(jn:Jn)(m:Mp)(l:List Ch):Tb × Jn × Mp × Int:=
 if (zZa t l).2≠0 then (t,jn,m,(zZa t l).2) else
 if (zeh jn m (zZa t l).1 l).2.2≠0 then (t,(zeh jn m (zZa t l).1 l).1,(zeh jn m (zZa t l).1 l).2.1,(zeh jn m (zZa t l).1 l).2.2)
 else ((zZa t l).1,(zeh jn m (zZa t l).1 l).1,(zeh jn m (zZa t l).1 l).2.1,0)
theorem zuL{N:Nat}(ok:m.Ok)(jok:jn.Ok)(hsm:m.Sm N)(hN:N+20000≤1000000)(hv:RdC Γ v l)(hl:l.length≤1000)(hver:∀ c ∈ l,0≤c.ver)(hf:(zZa t l).2=0→0≤(zZa t l).1.flo)(hb1:By (lBy l))(hb2:(zZa t l).2=0→By (tBy (zZa t l).1))
  (hO:St H (((Γ++SB ps pj t)++JB pj L.pm jn)++MW L m)) (how:Mown L m)
  (hk:∀ H' L',L.Eq L'→St H' (((Γ++SB ps pj (tDo t jn m l).1)++JB pj L'.pm (tDo t jn m l).2.1)++MW L' (tDo t jn m l).2.2.1)→Mown L' (tDo t jn m l).2.2.1→K (int (tDo t jn m l).2.2.2) H') :
  wCall P zfg [ptr ps 0,v] H K:=by
 apply zZo; unfold zOl
 unfold tDo at hk
 refine zaa zfa ?_
 refine zaa zga ?_
 refine zBa hO (Γ.length+0) (zza (zza (zqa rfl))) (show _=tbC t from ?_) rfl (by omega) ?_
 ·rfl
 refine zDj hO hv.app.app.app (by omega) ?_
 clear hO
 intro H hO
 refine zaa zRh ?_
 refine zaa zSh ?_
 rw[zdH]
 refine zxa hO ?_
 clear hO
 intro p5 H hO
 refine zoa hO (_+0) (zqa rfl) rfl rfl rfl ?_
 clear hO
 intro H hO
 replace hO:=hO.set_r
 replace hO:=St.in2 hO
 replace hO:St H ((((Γ++[(p5,⟨tbC (zZa t l).1,true⟩)])++SB ps pj t)++JB pj L.pm jn)++MW L m):=hO
 refine zaa zKa ?_
 refine zja (fun h=>?_) (fun h=>?_)
 ·rw[if_pos h] at hk
  exact hk _ L Mloc.Eq.rfl' (St.drop1 hO) how
 rw[if_neg h] at hk
 have h0:=Decidable.not_not.1 h
 refine zia hO (Γ.length+0) (zza (zza (zza (zqa rfl)))) rfl (by omega) ?_
 refine zoH ok jok hsm hN hv.app hl hver (hf h0) hb1 (hb2 h0) hO how ?_
 clear hO
 intro H L2 he hO how2
 generalize zeh jn m (zZa t l).1 l=R at *
 refine zaa zKa ?_
 refine zja (fun h2=>?_) (fun h2=>?_)
 ·rw[if_pos h2] at hk
  exact hk _ L2 he (St.drop1 hO) how2
 rw[if_neg h2] at hk
 refine zia hO (Γ.length+0) (zza (zza (zza (zqa rfl)))) rfl (by omega) ?_
 refine zaa zfa ?_
 refine zaa zga ?_
 refine zgc hO ((Γ++[(p5,(⟨tbC (zZa t l).1,true⟩:Blk))]).length+0) (zza (zza (zqa rfl))) rfl (show 0+1+75≤(ptr pj 0::tbC t).length from Nat.le_refl _) rfl ?_
 clear hO
 intro H hO
 rw[List.set_append_left _ _ (by simp),List.set_append_left _ _ (by simp),Go.Ab.set_r] at hO
 replace hO:St H ((((Γ++[(p5,⟨tbC (zZa t l).1,true⟩)])++SB ps pj (zZa t l).1)++JB pj L2.pm R.1)++MW L2 R.2.1):=hO
 exact hk _ L2 he (St.drop1 hO) how2
end J
set_option maxRecDepth 100000
namespace J
open Go Go.Ab
variable{xs ys bs body:List Int}{bb nowB more:List (List Int)}{m:Mp}{A B k:Nat}{jn:Jn}{t t' u u' next first T:Tb}{l l':List Ch}{c c':Ch}{s s':Sl}
structure TE (t t':Tb):Prop where
 a:slC t.a=slC t'.a
 b:slC t.b=slC t'.b
 act:t.act=t'.act
 boo:t.boo=t'.boo
 flo:t.flo=t'.flo
theorem TE.cells(h:TE t t'):tbC t=tbC t':=by
 unfold tbC
 rw[h.a,h.b,h.act,h.boo,h.flo]
theorem TE.of(h:tbC t=tbC t'):TE t t':=by
 unfold tbC at h
 obtain⟨h1,h2⟩:=List.append_inj h rfl
 obtain⟨h3,h4⟩:=List.append_inj h2 rfl
 simp only[List.cons.injEq,Value.int.injEq,true_and,and_true] at h4
 exact⟨h1,h3,h4.1,h4.2.1,h4.2.2⟩
theorem TE.rfl':TE t t:=⟨rfl,rfl,rfl,rfl,rfl⟩
theorem TE.symm(h:TE t t'):TE t' t:=⟨h.a.symm,h.b.symm,h.act.symm,h.boo.symm,h.flo.symm⟩
theorem TE.trans(h:TE t t')(h2:TE t' u):TE t u:=⟨h.a.trans h2.a,h.b.trans h2.b,h.act.trans h2.act,h.boo.trans h2.boo,h.flo.trans h2.flo⟩
structure CE (c c':Ch):Prop where
 k:c.kind=c'.kind
 s:c.slot=c'.slot
 n:c.n=c'.n
 v:c.ver=c'.ver
 t:slC c.to=slC c'.to
def CEs:List Ch→List Ch→Prop
 | [],[]=>True
 | c::l,c'::l'=>CE c c'∧CEs l l'
 | _,_=>False
theorem CE.of(h:chC c=chC c'):CE c c':=by
 have h:int c.kind::int c.slot::int c.n::(slC c.to++[.int .u64 c.ver])=int c'.kind::int c'.slot::int c'.n::(slC c'.to++[.int .u64 c'.ver]):=h
 simp only[List.cons.injEq,Value.int.injEq,true_and] at h
 obtain⟨h1,h2,h3,h4⟩:=h
 obtain⟨h5,h6⟩:=List.append_inj h4 rfl
 simp only[List.cons.injEq,Value.int.injEq,true_and,and_true] at h6
 exact⟨h1,h2,h3,h6,h5⟩
theorem CEs.of:∀ {l l':List Ch},chs l=chs l'→l.length=l'.length→CEs l l'
 | [],[],_,_=>trivial
 | [],_::_,_,h=>by simp at h
 | _::_,[],_,h=>by simp at h
 | c::l,c'::l',h,hl=>by
  have h:chC c++chs l=chC c'++chs l':=h
  obtain⟨h1,h2⟩:=List.append_inj h rfl
  exact⟨CE.of h1,CEs.of h2 (by simpa using hl)⟩
theorem CEs.rfl':∀ l:List Ch,CEs l l
 | []=>trivial
 | c::l=>⟨⟨rfl,rfl,rfl,rfl,rfl⟩,CEs.rfl' l⟩
theorem CEs.ok:∀ {l l':List Ch},CEs l l'→l.length=l'.length∧((∀ c ∈ l,zTa c)↔∀ c ∈ l',zTa c)
 | [],[],_=>⟨rfl,by simp⟩
 | [],_::_,h=>h.elim
 | _::_,[],h=>h.elim
 | c::l,c'::l',h=>by
  obtain⟨h1,h2⟩:=CEs.ok h.2
  have hc:=zlA h.1.k h.1.s h.1.n h.1.v h.1.t
  refine⟨by simp[h1],?_⟩
  rw[List.forall_mem_cons,List.forall_mem_cons,hc,h2]
def zxO:Tb→List (List Int)→Tb→Prop
 | T,[],t=>TE T t
 | T,b::r,t=>(zZx b).2=0∧(zZa T (zZx b).1).2=0∧zxO (zZa T (zZx b).1).1 r t
def zMM(bb:List (List Int))(t:Tb):Prop:=match bb with
 | []=>TE tbz t
 | b::r=>(zzd b).2=0∧zxO (zzd b).1 r t
structure TW (t:Tb):Prop where
 f:0≤t.flo
 a:∀ i,0≤t.a.dg i∧t.a.dg i≤255
 b:∀ i,0≤t.b.dg i∧t.b.dg i≤255
theorem zpH:TW tbz:=⟨by decide,fun i=>by show (0:Int)≤0∧(0:Int)≤255; omega,fun i=>by show (0:Int)≤0∧(0:Int)≤255; omega⟩
theorem zNM(h:TW t)(hc:CBy c)(h1:ap1 t c=some u):TW u:=by
 unfold ap1 at h1
 split at h1
 ·cases h1
  unfold Tb.put
  split
  ·exact⟨h.f,hc.1,h.b⟩
  ·exact⟨h.f,h.a,hc.1⟩
 split at h1
 ·cases h1; exact⟨h.f,h.a,h.b⟩
 split at h1
 ·cases h1; exact⟨h.f,h.a,h.b⟩
 split at h1
 ·cases h1
 ·cases h1; exact⟨hc.2,h.a,h.b⟩
theorem zTJ:∀ (l:List Ch) (t u:Tb),TW t→(∀ c ∈ l,CBy c)→apL t l=some u→TW u
 | [],t,u,h,_,e=>by cases e; exact h
 | c::l,t,u,h,hc,e=>by
  have e:(match ap1 t c with|some t'=>apL t' l|none=>none)=some u:=e
  cases h1:ap1 t c with
  | none=>rw[h1] at e; cases e
  | some t1=>
   rw[h1] at e
   exact zTJ l t1 u (zNM h (hc c List.mem_cons_self) h1) (fun c hc'=>hc c (List.mem_cons_of_mem _ hc')) e
theorem zQr(h:TW t)(hc:∀ c ∈ l,CBy c):TW (zZa t l).1:=by
 unfold zZa
 split
 ·cases h1:apL t l with
  | none=>exact zpH
  | some u=>exact zTJ l t u h hc h1
 ·exact zpH
theorem zkJ(hb:By bs):TW (zzd bs).1:=by
 unfold zzd
 split
 ·refine⟨?_,fun i=>?_,fun i=>?_⟩
  ·show (0:Int)≤((leV _:Nat):Int); omega
  ·exact zgC (xs:=bs.take 46) (zRt hb _) i
  ·exact zgC (xs:=(bs.drop 46).take 46) (zRt (zvp hb _) _) i
 ·exact zpH
theorem zlJ(hb:By bs):∀ c ∈ (zZx bs).1,CBy c:=by
 unfold zZx
 split
 ·by_cases h1:1≤bs.length
  ·obtain⟨a1,a2,a3⟩:=zDf h1
   rw[a2,a3]
   cases hp:pGo (zUc bs 0 1) (bs.drop 1) 0 with
   | none=>simp
   | some r=>
    obtain⟨_,i2,_,_⟩:=zro _ _ _ (zvp hb 1) hp
    simp only
    split
    ·intro c hc
     rw[← i2] at hc
     exact zhC _ _ _ (zvp hb 1) c hc
    ·simp
  ·obtain⟨a1,a2,a3⟩:=zdf (xs:=bs) (n:=1) (by omega)
   unfold zUc
   rw[a1]
   simp[leV,pGo]
   split <;> simp
 ·simp
structure SInv (A B k:Nat) (t:Tb) (jn:Jn) (m:Mp) (mays:List Tb):Prop where
 r:TRight t
 w:TW t
 mr:∀ u ∈ mays,TRight u
 i:∃ nowB mb,HInv A B k jn m nowB mb∧zMM nowB t∧∀ x ∈ mb,∃ u ∈ mays,zMM x u
end J
set_option maxRecDepth 100000
namespace J
open Go Go.Ab
variable{H:Heap}{Γ:List (Nat × Blk)}{K:VH}
instance (g:Nat→Int):Decidable (Dz g):=by unfold Dz; infer_instance
instance (s:Sl):Decidable (zHk s):=by unfold zHk; infer_instance
instance (s:Sl):Decidable (zIk s):=by unfold zIk; infer_instance
instance (s:Sl):Decidable (SRight s):=by unfold SRight; infer_instance
instance (s:Sl):Decidable (zQh s):=by unfold zQh; infer_instance
instance (s:Sl):Decidable (zbh s):=by unfold zbh; infer_instance
section
variable{s:Sl}
end
variable{H:Heap}{Γ:List (Nat × Blk)}{K:VH}
section
variable{s:Sl}
theorem zCb(hO:St H Γ)(hk:∀ H',St H' Γ→K (.bool (decide (SRight s))) H'):wCall P zHb [agg (slC s)] H K:=by
 apply zwu; unfold zNs
 refine zxa hO ?_
 intro p H hO
 refine zwa (fun l' H'=>l'=[ptr p 0,.bool (decide (zHk s))]∧H'=H) ?_ ?_
 ·repeat (first|refine oi ?_|refine ld hO 0 rfl rfl ?_)
  by_cases h1:s.tr=0
  ·repeat (first|refine oi ?_|refine wy ?_|refine ld hO 0 rfl rfl ?_)
   by_cases h2:s.ver=0
   ·repeat (first|refine oi ?_|refine wy ?_|refine ld hO 0 rfl rfl ?_)
    by_cases h3:s.sz=0
    ·repeat (first|refine oi ?_|refine wy ?_)
     refine zBa hO (Γ.length+0) (zqa rfl) (show _=dgC s.dg from rfl) rfl (by omega) ?_
     refine zaa b24 ?_
     refine zaa (zIO _ _ _) ?_
     repeat refine oi ?_
     refine⟨?_,rfl⟩
     rw[show decide (zHk s)=zPa (dgC s.dg) (dgC fun _=>0) from by rw[Bool.eq_iff_iff,decide_eq_true_iff]; exact⟨fun h=>h.2.2.2,fun h=>⟨h1,h2,h3,h⟩⟩]
    ·repeat (first|refine oi ?_|refine wn ?_)
     rw[decide_eq_false (show ¬ zHk s from fun h=>h3 h.2.2.1)]; exact⟨rfl,rfl⟩
   ·repeat (first|refine oi ?_|refine wn ?_)
    rw[decide_eq_false (show ¬ zHk s from fun h=>h2 h.2.1)]; exact⟨rfl,rfl⟩
  ·repeat (first|refine oi ?_|refine wn ?_)
   rw[decide_eq_false (show ¬ zHk s from fun h=>h1 h.1)]; exact⟨rfl,rfl⟩
 rintro l' H' ⟨rfl,rfl⟩
 refine zwa (fun l' H=>l'=[ptr p 0,.bool (decide (zHk s)),.bool (decide (zIk s))]∧H=H') ?_ ?_
 ·try simp only[zla,zma]
  repeat (first|refine oi ?_|refine ld hO 0 rfl rfl ?_)
  by_cases h1:1≤s.ver
  ·repeat (first|refine oi ?_|refine wy ?_|refine ld hO 0 rfl rfl ?_)
   by_cases h2:s.ver≤281474976710656
   ·repeat (first|refine oi ?_|refine wy ?_|refine ld hO 0 rfl rfl ?_)
    by_cases h3:1≤s.sz
    ·repeat (first|refine oi ?_|refine wy ?_|refine ld hO 0 rfl rfl ?_)
     rw[show decide (zIk s)=decide (s.sz≤65536) from decide_eq_decide.2 (by unfold zIk; omega)]
     exact⟨(by first|rfl|trivial),(by first|rfl|trivial)⟩
    ·repeat (first|refine oi ?_|refine wn ?_)
     rw[decide_eq_false (show ¬ zIk s by unfold zIk; omega)]; exact⟨(by first|rfl|trivial),(by first|rfl|trivial)⟩
   ·repeat (first|refine oi ?_|refine wn ?_)
    rw[decide_eq_false (show ¬ zIk s by unfold zIk; omega)]; exact⟨(by first|rfl|trivial),(by first|rfl|trivial)⟩
  ·repeat (first|refine oi ?_|refine wn ?_)
   rw[decide_eq_false (show ¬ zIk s by unfold zIk; omega)]; exact⟨(by first|rfl|trivial),(by first|rfl|trivial)⟩
 rintro l' H ⟨rfl,rfl⟩
 refine zwa (fun l' H'=>l'=[ptr p 0,.bool (decide (zHk s)),.bool (decide (zIk s)),.bool (decide (s.st=0∨s.st=1∨s.st=4))]∧H'=H) ?_ ?_
 ·try simp only[zla,zma]
  repeat (first|refine oi ?_|refine ld hO 0 rfl rfl ?_)
  by_cases h:s.st=0
  ·repeat (first|refine oi ?_|refine wy ?_)
   rw[decide_eq_true (show s.st=0∨s.st=1∨s.st=4 by omega)]; exact⟨(by first|rfl|trivial),(by first|rfl|trivial)⟩
  ·repeat (first|refine oi ?_|refine wn ?_|refine ld hO 0 rfl rfl ?_)
   by_cases h1:s.st=1
   ·repeat (first|refine oi ?_|refine wy ?_)
    rw[decide_eq_true (show s.st=0∨s.st=1∨s.st=4 by omega)]; exact⟨(by first|rfl|trivial),(by first|rfl|trivial)⟩
   ·repeat (first|refine oi ?_|refine wn ?_|refine ld hO 0 rfl rfl ?_)
    rw[show decide (s.st=0∨s.st=1∨s.st=4)=decide (s.st=4) from decide_eq_decide.2 (by omega)]; exact⟨(by first|rfl|trivial),(by first|rfl|trivial)⟩
 rintro l' H' ⟨rfl,rfl⟩
 try simp only[zla,zma]
 refine zja (fun h=>?_) (fun h=>?_)
 ·rw[show decide (SRight s)=decide (zHk s) from decide_eq_decide.2 (by unfold SRight; constructor; (rintro (⟨_,h⟩|⟨h,_⟩|⟨h,_⟩); exact h; omega; omega); exact fun h2=>.inl ⟨h,h2⟩)] at hk
  exact hk _ hO.left
 ·have hn:SRight s↔(s.st=2∧(0≤s.tr∧s.tr≤7)∧zIk s)∨(s.st=3∧s.tr=0∧zIk s):=by
   unfold SRight; constructor
   ·rintro (⟨h2,_⟩|h2)
    ·exact absurd h2 h
    ·exact h2
   ·exact .inr
  repeat (first|refine oi ?_|refine ld hO 0 rfl rfl ?_)
  by_cases h2:s.st=2
  ·repeat refine wy ?_
   have hn2:SRight s↔((0≤s.tr∧s.tr≤7)∧zIk s):=by
    rw[hn]; constructor
    ·rintro (⟨_,h⟩|⟨h,_⟩)
     ·exact h
     ·omega
    ·exact fun h=>.inl ⟨h2,h⟩
   refine zja (fun h3=>?_) (fun h3=>?_)
   ·repeat (first|refine oi ?_|refine ld hO 0 rfl rfl ?_)
    by_cases h4:0≤s.tr
    ·repeat (first|refine oi ?_|refine wy ?_|refine ld hO 0 rfl rfl ?_)
     rw[show decide (SRight s)=decide (s.tr≤7) from decide_eq_decide.2 (by rw[hn2]; exact⟨fun h=>h.1.2,fun h=>⟨⟨h4,h⟩,h3⟩⟩)] at hk
     exact hk _ hO.left
    ·repeat (first|refine oi ?_|refine wn ?_)
     rw[decide_eq_false (show ¬ SRight s by rw[hn2]; exact fun h=>h4 h.1.1)] at hk
     exact hk _ hO.left
   ·repeat refine oi ?_
    rw[decide_eq_false (show ¬ SRight s by rw[hn2]; exact fun h=>h3 h.2)] at hk
    exact hk _ hO.left
  ·repeat (first|refine oi ?_|refine wn ?_|refine ld hO 0 rfl rfl ?_)
   by_cases h3:s.st=3
   ·repeat (first|refine oi ?_|refine wy ?_)
    have hn2:SRight s↔(s.tr=0∧zIk s):=by
     rw[hn]; constructor
     ·rintro (⟨h,_⟩|⟨_,h⟩)
      ·omega
      ·exact h
     ·exact fun h=>.inr ⟨h3,h⟩
    refine zja (fun h4=>?_) (fun h4=>?_)
    ·repeat (first|refine oi ?_|refine ld hO 0 rfl rfl ?_)
     rw[show decide (SRight s)=decide (s.tr=0) from decide_eq_decide.2 (by rw[hn2]; exact⟨fun h=>h.1,fun h=>⟨h,h4⟩⟩)] at hk
     exact hk _ hO.left
    ·repeat refine oi ?_
     rw[decide_eq_false (show ¬ SRight s by rw[hn2]; exact fun h=>h4 h.2)] at hk
     exact hk _ hO.left
   ·repeat (first|refine oi ?_|refine wn ?_)
    rw[decide_eq_false (show ¬ SRight s by rw[hn]; rintro (⟨h,_⟩|⟨h,_⟩); exact h2 h; exact h3 h)] at hk
    exact hk _ hO.left
end
variable{H:Heap}{Γ:List (Nat × Blk)}{K:VH}
section
variable{t:Tb}
instance (x:Int):Decidable (Ix x):=by unfold Ix; infer_instance
instance (t:Tb):Decidable (TRight t):=by unfold TRight; infer_instance
theorem zbd(hO:St H Γ)(hk:∀ H',St H' Γ→K (.bool (decide (TRight t))) H'):wCall P zJc [agg (tbC t)] H K:=by
 apply ztu; unfold zGs
 refine zxa hO ?_
 intro p H hO
 refine zwa (fun l' H'=>l'=[ptr p 0]∧St H' (Γ++[(p,⟨tbC t,true⟩)])∧SRight t.a∧SRight t.b) ?_ ?_
 ·repeat refine oi ?_
  refine zYc (t:=t) (x:=0) hO (Γ.length+0) (zqa rfl) (.inl rfl) rfl ?_
  refine zCb hO ?_
  intro H hO
  by_cases h1:SRight t.a
  ·rw[show decide (SRight (t.sl 0))=true from decide_eq_true h1]
   repeat (first|refine oi ?_|refine wf' ?_)
   refine zYc (t:=t) (x:=1) hO (Γ.length+0) (zqa rfl) (.inr rfl) rfl ?_
   refine zCb hO ?_
   intro H hO
   by_cases h2:SRight t.b
   ·rw[show decide (SRight (t.sl 1))=true from decide_eq_true h2]
    repeat (first|refine oi ?_|refine wf' ?_)
    exact⟨rfl,hO,h1,h2⟩
   ·rw[show decide (SRight (t.sl 1))=false from decide_eq_false h2]
    repeat (first|refine oi ?_|refine wt ?_)
    rw[decide_eq_false (show ¬ TRight t from fun h=>h2 h.2.1)] at hk
    exact hk _ hO.left
  ·rw[show decide (SRight (t.sl 0))=false from decide_eq_false h1]
   repeat (first|refine oi ?_|refine wt ?_)
   rw[decide_eq_false (show ¬ TRight t from fun h=>h1 h.1)] at hk
   exact hk _ hO.left
 clear hO
 rintro l' H ⟨rfl,hO,h1,h2⟩
 try simp only[zla,zma]
 repeat (first|refine oi ?_|refine ld hO 0 rfl rfl ?_)
 by_cases a1:0≤t.act
 ·repeat (first|refine oi ?_|refine wy ?_|refine ld hO 0 rfl rfl ?_)
  by_cases a2:t.act≤1
  ·repeat (first|refine oi ?_|refine wy ?_|refine ld hO 0 rfl rfl ?_)
   by_cases b1:-1≤t.boo
   ·repeat (first|refine oi ?_|refine wy ?_|refine ld hO 0 rfl rfl ?_)
    by_cases b2:t.boo≤1
    ·repeat (first|refine oi ?_|refine wy ?_|refine ld hO 0 rfl rfl ?_)
     rw[show decide (TRight t)=decide (t.flo≤281474976710656) from decide_eq_decide.2 ⟨fun h=>h.2.2.2.2,fun h=>⟨h1,h2,by unfold Ix; omega,by unfold Ix; omega,h⟩⟩] at hk
     exact hk _ hO.left
    ·repeat (first|refine oi ?_|refine wn ?_)
     rw[decide_eq_false (show ¬ TRight t from fun h=>by have:=h.2.2.2.1; unfold Ix at this; omega)] at hk
     exact hk _ hO.left
   ·repeat (first|refine oi ?_|refine wn ?_)
    rw[decide_eq_false (show ¬ TRight t from fun h=>by have:=h.2.2.2.1; unfold Ix at this; omega)] at hk
    exact hk _ hO.left
  ·repeat (first|refine oi ?_|refine wn ?_)
   rw[decide_eq_false (show ¬ TRight t from fun h=>by have:=h.2.2.1; unfold Ix at this; omega)] at hk
   exact hk _ hO.left
 ·repeat (first|refine oi ?_|refine wn ?_)
  rw[decide_eq_false (show ¬ TRight t from fun h=>by have:=h.2.2.1; unfold Ix at this; omega)] at hk
  exact hk _ hO.left
end
variable{H:Heap}{Γ:List (Nat × Blk)}{K:VH}
section
variable{t:Tb}
end
variable{H:Heap}{Γ:List (Nat × Blk)}{K:VH}
section
variable{t:Tb}
end
variable{H:Heap}{Γ:List (Nat × Blk)}{K:VH}
section
variable{t:Tb}
end
variable{H:Heap}{Γ:List (Nat × Blk)}{K:VH}
section
variable{t:Tb}
end
variable{H:Heap}{Γ:List (Nat × Blk)}{K:VH}
section
variable{t:Tb}
end
variable{H:Heap}{Γ:List (Nat × Blk)}{K:VH}
section
variable{t:Tb}{c:Ch}
instance (s s':Sl):Decidable (SEq s s'):=by unfold SEq; infer_instance
instance (s:Sl):Decidable (SZ s):=by unfold SZ; infer_instance
instance (c:Ch):Decidable (zTa c):=by unfold zTa; infer_instance
end
variable{H:Heap}{Γ:List (Nat × Blk)}{K:VH}
section
variable{t:Tb}{c:Ch}
end
variable{H:Heap}{Γ:List (Nat × Blk)}{K:VH}
section
variable{t:Tb}{l:List Ch}
instance (l:List Ch):Decidable (TOk l):=by unfold TOk; infer_instance
end
variable{H:Heap}{Γ:List (Nat × Blk)}{K:VH}
section
variable{t:Tb}{a:Sd}
end
end J
set_option maxRecDepth 100000
namespace J
open Go Go.Ab
variable{H:Heap}{Γ:List (Nat × Blk)}{K:VH}{v w x:Value}{xs ys:List Int}
theorem zKk{n:Nat}(hn:n≤8)(hk:K (int n) H):wCall P zsh [int n] H K:=by
 apply zlx; unfold zQv
 repeat (first|refine oi ?_|refine wn ?_)
 exact hk
theorem zSb{n size:Nat}(hO:St H Γ)(hn:n < 2 ^ 64)(hs:size≤8)(hk:MadeB Γ K (leN size n)):wCall P zJb [zib .u64 n,int size] H K:=by
 apply zJu; unfold zit
 refine zEa hO (zkm _) ?_
 intro q H hO
 refine zNn (fun k l' H'=>∃ (y:Nat) (v':Value) (cs':List Value),y≤size∧k=size - y∧l'=[zib .u64 (n / 256 ^ y),int size,zya,v',int y]∧St H' (Γ++zGa v' cs')∧OwnB v' (leN y n) cs') _ _ ?_ size _ _ ⟨0,sl q 0 0 3,[],by omega,by omega,by simp,hO,.inr ⟨q,.inr ⟨rfl,rfl⟩,rfl,Nat.zero_le _,rfl⟩⟩
 clear hO
 rintro k l' H' ⟨y,v',cs',hy,rfl,rfl,hO,hv'⟩
 unfold zWl
 try simp only[zla,zma]
 refine zKk hs ?_
 repeat refine oi ?_
 refine zja (fun h=>?_) (fun h=>?_)
 ·have hyl:y < size:=by omega
  have hb:n / 256 ^ y < 2 ^ 64:=Nat.lt_of_le_of_lt (Nat.div_le_self _ _) hn
  refine zaa (zsn (b:=256) (by decide)) ?_
  refine zDa (cvU rfl) ?_
  refine zEa hO (zti _ _ _) ?_
  intro q H hO
  rw[show n / 256 ^ y % 256 % szU .u8=n / 256 ^ y % 256 from Nat.mod_mod _ _] at *
  refine zAb (ys:=[((n / 256 ^ y % 256:Nat):Int)]) hO hv' (by have:=zhb y n; simp[this]; omega) rfl (.inr rfl) ?_
  intro H v'' cs'' hO hv''
  refine zaa (zKI (b:=256) rfl (by decide) hb) ?_
  repeat refine oi ?_
  refine⟨_,by omega,y+1,v'',cs'',by omega,rfl,?_,hO,?_⟩
  ·rw[Nat.div_div_eq_div_mul,← Nat.pow_succ]; rfl
  ·rw[zrD]; exact hv''
 ·have e:y=size:=by omega
  subst e
  repeat refine cy ?_
  exact hk _ _ _ hO hv'
end J
set_option maxRecDepth 100000
namespace J
open Go Go.Ab
variable{H:Heap}{Γ:List (Nat × Blk)}{K:VH}{v w x:Value}{xs ys:List Int}
section
variable{s:Sl}{t:Tb}
set_option maxHeartbeats 2000000 in
theorem zhg(hO:St H Γ)(hk:MadeB Γ K (zIA s)):wCall P zLe [agg (slC s)] H K:=by
 apply zIu; unfold zht
 refine zxa hO ?_
 intro p H hO
 refine zEa hO (zkm _) ?_
 intro r H hO
 refine zia hO (Γ.length+0) (zza (zqa rfl)) rfl (by omega) ?_
 refine zCb hO ?_
 intro H hO
 have h0:OwnB (sl r 0 0 3) [] []:=.inr ⟨r,.inr ⟨rfl,rfl⟩,rfl,Nat.zero_le _,rfl⟩
 have hO:St H ((Γ++[(p,⟨slC s,true⟩)])++zGa (sl r 0 0 3) []):=hO
 by_cases hr:SRight s
 ·rw[decide_eq_true hr]
  unfold zIA at hk
  rw[if_pos hr] at hk
  obtain⟨n1,n2,n3,n4⟩:=hr.nn
  repeat (first|refine oi ?_|refine wf' ?_)
  refine zha hO (Γ.length+0) (zza (zqa rfl)) rfl ?_
  refine zDa (zNI (by omega) (by omega)) ?_
  repeat refine oi ?_
  refine zha hO (Γ.length+0) (zza (zqa rfl)) rfl ?_
  refine zDa (zNI (by omega) (by omega)) ?_
  refine zEa hO (zqD _ _ _ _ _) ?_
  intro q H hO
  have e1:leN 1 s.st.toNat=[((s.st.toNat:Nat):Int)]:=by simp[leN]; omega
  have e2:leN 1 s.tr.toNat=[((s.tr.toNat:Nat):Int)]:=by simp[leN]; omega
  refine zAb (ys:=[((s.st.toNat:Nat):Int),((s.tr.toNat:Nat):Int)]) hO h0 (by simp) rfl (.inr rfl) ?_
  intro H v1 c1 hO h1
  repeat refine oi ?_
  refine zha hO (Γ.length+0) (zza (zqa rfl)) rfl ?_
  rw[zuf n3.1]
  refine zSb (size:=8) hO (by omega) (by omega) ?_
  intro H v2 c2 hO h2
  refine zsc hO h1 h2 (by simp[zhb]) ?_
  intro H v3 c3 hO h3
  repeat refine oi ?_
  refine zha hO (Γ.length+0) (zza (zqa rfl)) rfl ?_
  refine zDa (znE (by omega) (by omega)) ?_
  refine zSb (size:=4) hO (by omega) (by omega) ?_
  intro H v4 c4 hO h4
  refine zsc hO h3 h4 (by simp[zhb]) ?_
  intro H v5 c5 hO h5
  repeat refine oi ?_
  refine zaa (zbi hO (Γ.length+0) (zza (zqa rfl)) (by omega) (show 4+32≤(slC s).length from Nat.le_refl _)) ?_
  refine zGe hO h5 (zFM (B:=[])) (by simp[zhb,dgL]) ?_
  intro H v6 c6 hO h6
  refine hk _ v6 c6 (St.mid hO) ?_
  have:sBy s=[]++[((s.st.toNat:Nat):Int),((s.tr.toNat:Nat):Int)]++leN 8 s.ver.toNat++leN 4 s.sz.toNat++dgL s.dg:=by
   unfold sBy; rw[e1,e2]; rfl
  rw[this]; exact h6
 ·rw[decide_eq_false hr]
  unfold zIA at hk
  rw[if_neg hr] at hk
  repeat (first|refine oi ?_|refine wt ?_)
  exact hk _ _ _ (St.mid hO) h0
end
end J
set_option maxRecDepth 100000
namespace J
open Go Go.Ab
variable{H:Heap}{Γ:List (Nat × Blk)}{K:VH}{v w x:Value}{xs ys:List Int}
section
variable{s:Sl}{t:Tb}
set_option maxHeartbeats 2000000 in
theorem zur(hO:St H Γ)(hf:0≤t.flo)(hk:MadeB Γ K (tBy t)):wCall P zSi [agg (tbC t)] H K:=by
 apply zHu; unfold zft
 refine zxa hO ?_
 intro p H hO
 refine zEa hO (zkm _) ?_
 intro r H hO
 refine zia hO (Γ.length+0) (zza (zqa rfl)) rfl (by omega) ?_
 refine zbd hO ?_
 intro H hO
 have h0:OwnB (sl r 0 0 3) [] []:=.inr ⟨r,.inr ⟨rfl,rfl⟩,rfl,Nat.zero_le _,rfl⟩
 have hO:St H ((Γ++[(p,⟨tbC t,true⟩)])++zGa (sl r 0 0 3) []):=hO
 by_cases hr:TRight t
 ·rw[decide_eq_true hr]
  unfold tBy at hk
  rw[if_pos hr] at hk
  have n3:=hr.2.2.1.bd
  have n4:-1≤t.boo∧t.boo≤1:=by rcases hr.2.2.2.1 with h|h; omega; have:=h.bd; omega
  have n5:=hr.2.2.2.2
  repeat (first|refine oi ?_|refine wf' ?_)
  refine zBa hO (Γ.length+0) (zza (zqa rfl)) (show _=slC t.a from rfl) rfl (by omega) ?_
  refine zhg hO ?_
  rw[zve hr.1]
  intro H v1 c1 hO h1
  refine zsc hO h0 h1 (by simp[zch]) ?_
  intro H v2 c2 hO h2
  repeat refine oi ?_
  refine zBa hO (Γ.length+0) (zza (zqa rfl)) (show _=slC t.b from rfl) rfl (by omega) ?_
  refine zhg hO ?_
  rw[zve hr.2.1]
  intro H v3 c3 hO h3
  refine zsc hO h2 h3 (by simp[zch]) ?_
  intro H v4 c4 hO h4
  repeat refine oi ?_
  refine zha hO (Γ.length+0) (zza (zqa rfl)) rfl ?_
  refine zDa (zNI (by omega) (by omega)) ?_
  repeat refine oi ?_
  refine zha hO (Γ.length+0) (zza (zqa rfl)) rfl ?_
  repeat refine oi ?_
  refine zDa (zNI (by omega) (by omega)) ?_
  refine zEa hO (zqD _ _ _ _ _) ?_
  intro q H hO
  refine zAb (ys:=[((t.act.toNat:Nat):Int),(((t.boo+1).toNat:Nat):Int)]) hO h4 (by simp[zch]) rfl (.inr rfl) ?_
  intro H v5 c5 hO h5
  repeat refine oi ?_
  refine zha hO (Γ.length+0) (zza (zqa rfl)) rfl ?_
  rw[zuf hf]
  refine zSb (size:=8) hO (by omega) (by omega) ?_
  intro H v6 c6 hO h6
  refine zsc hO h5 h6 (by simp[zhb,zch]) ?_
  intro H v7 c7 hO h7
  refine hk _ v7 c7 (St.mid hO) ?_
  rw[zUm (show t.act.toNat < 256 by omega),zUm (show (t.boo+1).toNat < 256 by omega)]
  simpa using h7
 ·rw[decide_eq_false hr]
  unfold tBy at hk
  rw[if_neg hr] at hk
  repeat (first|refine oi ?_|refine wt ?_)
  exact hk _ _ _ (St.mid hO) h0
end
end J
set_option maxRecDepth 100000
namespace J
open Go Go.Ab
variable{H:Heap}{Γ:List (Nat × Blk)}{K:VH}{v w x:Value}{xs ys:List Int}
section
variable{s:Sl}{t:Tb}{c:Ch}{l:List Ch}
theorem zlC(x y:Value):zkd x y=zkd y x:=by
 cases x <;> cases y <;> first|rfl|skip
 ·show (_ == _)=(_ == _); exact Bool.beq_comm
 ·show decide _=decide _; exact decide_eq_decide.2 eq_comm
 ·show (_ == _)=(_ == _); exact Bool.eq_iff_iff.2 (by rw[beq_iff_eq,beq_iff_eq]; exact eq_comm)
theorem zIq:∀ xs ys:List Value,zPa xs ys=zPa ys xs
 | [],[]=>rfl
 | [],_::_=>rfl
 | _::_,[]=>rfl
 | x::xs,y::ys=>by show (zkd x y && zPa xs ys)=(zkd y x && zPa ys xs); rw[zlC,zIq xs ys]
theorem zvL(s:Sl)(b:Bool):(zsa P .eql 27 b).f (agg (slC s)) (agg (slC (slz 0)))=some (.bool (decide (SZ s))):=by
 rw[zsO,zIq]
 by_cases hz:SZ s
 ·rw[decide_eq_true hz,show zPa (slC (slz 0)) (slC s)=true from hz]
 ·rw[decide_eq_false hz,show zPa (slC (slz 0)) (slC s)=false from Bool.eq_false_iff.2 hz]
set_option maxHeartbeats 2000000 in
theorem zbv(hO:St H Γ)(hk:∀ H',St H' Γ→K (.bool (decide (zTa c))) H'):wCall P zDm [agg (chC c)] H K:=by
 apply zEz; unfold zDz
 refine zxa hO ?_
 intro p H hO
 have no:¬ zTa c→∀ H',St H' (Γ++[(p,⟨chC c,true⟩)])→K (.bool false) H':=fun h H' hO'=>by
  have:=hk _ hO'.left
  rw[decide_eq_false h] at this; exact this
 have yes:∀ (q:Prop) [Decidable q],(q↔zTa c)→∀ H',St H' (Γ++[(p,⟨chC c,true⟩)])→K (.bool (decide q)) H':=fun q _ h H' hO'=>by
  have:=hk _ hO'.left
  rw[decide_eq_decide.2 h.symm] at this; exact this
 repeat (first|refine oi ?_|refine ld hO 0 rfl rfl ?_)
 refine zja (fun h1=>?_) (fun h1=>?_)
 ·repeat (first|refine oi ?_|refine ld hO 0 rfl rfl ?_)
  refine zja (fun h2=>?_) (fun h2=>?_)
  ·repeat (first|refine oi ?_|refine ld hO 0 rfl rfl ?_)
   refine zja (fun h3=>?_) (fun h3=>?_)
   ·repeat (first|refine oi ?_|refine ld hO 0 rfl rfl ?_)
    refine zja (fun h4=>?_) (fun h4=>?_)
    ·repeat (first|refine oi ?_|refine ld hO 0 rfl rfl ?_)
     refine zja (fun h5=>?_) (fun h5=>?_)
     ·repeat refine oi ?_
      refine zBa hO (Γ.length+0) (zqa rfl) (show _=slC c.to from rfl) rfl (by omega) ?_
      refine zCb hO ?_
      intro H hO
      repeat refine oi ?_
      refine yes _ ?_ _ hO
      unfold zTa Ix
      exact⟨fun h=>.inl ⟨h1,⟨by omega,h⟩,h2,h3⟩,fun h=>by rcases h with h|h|h|h; exact h.2.1.2; all_goals omega⟩
     ·repeat refine oi ?_
      exact no (by unfold zTa Ix; omega) _ hO
    ·repeat refine oi ?_
     exact no (by unfold zTa Ix; omega) _ hO
   ·repeat refine oi ?_
    exact no (by unfold zTa Ix; omega) _ hO
  ·repeat refine oi ?_
   exact no (by unfold zTa Ix; omega) _ hO
 repeat refine oi ?_
 refine zja (fun h1'=>?_) (fun h1'=>?_)
 ·repeat (first|refine oi ?_|refine ld hO 0 rfl rfl ?_)
  refine zja (fun h2=>?_) (fun h2=>?_)
  ·repeat (first|refine oi ?_|refine ld hO 0 rfl rfl ?_)
   refine zja (fun h3=>?_) (fun h3=>?_)
   ·repeat refine oi ?_
    refine zBa hO (Γ.length+0) (zqa rfl) (show _=slC c.to from rfl) rfl (by omega) ?_
    refine zaa b26 ?_
    refine zaa (zvL _ _) ?_
    by_cases hz:SZ c.to
    ·rw[decide_eq_true hz]
     repeat (first|refine oi ?_|refine wt ?_|refine ld hO 0 rfl rfl ?_)
     refine zja (fun h4=>?_) (fun h4=>?_)
     ·repeat (first|refine oi ?_|refine ld hO 0 rfl rfl ?_)
      refine yes _ ?_ _ hO
      unfold zTa Ix
      exact⟨fun h=>.inr (.inl ⟨h1',by omega,h2,hz,h3⟩),fun h=>by rcases h with h|h|h|h <;> omega⟩
     ·repeat refine oi ?_
      exact no (by unfold zTa Ix; omega) _ hO
    ·rw[decide_eq_false hz]
     repeat (first|refine oi ?_|refine wf' ?_)
     exact no (by unfold zTa; rintro (h|h|h|h); omega; exact hz h.2.2.2.1; omega; omega) _ hO
   ·repeat refine oi ?_
    exact no (by unfold zTa Ix; omega) _ hO
  ·repeat refine oi ?_
   exact no (by unfold zTa Ix; omega) _ hO
 repeat refine oi ?_
 refine zja (fun h1''=>?_) (fun h1''=>?_)
 ·repeat (first|refine oi ?_|refine ld hO 0 rfl rfl ?_)
  refine zja (fun h2=>?_) (fun h2=>?_)
  ·repeat (first|refine oi ?_|refine ld hO 0 rfl rfl ?_)
   refine zja (fun h3=>?_) (fun h3=>?_)
   ·repeat refine oi ?_
    refine zBa hO (Γ.length+0) (zqa rfl) (show _=slC c.to from rfl) rfl (by omega) ?_
    refine zaa b26 ?_
    refine zaa (zvL _ _) ?_
    by_cases hz:SZ c.to
    ·rw[decide_eq_true hz]
     repeat (first|refine oi ?_|refine wt ?_|refine ld hO 0 rfl rfl ?_)
     refine zja (fun h4=>?_) (fun h4=>?_)
     ·repeat (first|refine oi ?_|refine ld hO 0 rfl rfl ?_)
      refine yes _ ?_ _ hO
      unfold zTa Ix
      exact⟨fun h=>.inr (.inr (.inl ⟨h1'',by omega,h2,hz,h3⟩)),fun h=>by rcases h with h|h|h|h <;> omega⟩
     ·repeat refine oi ?_
      exact no (by unfold zTa Ix; omega) _ hO
    ·rw[decide_eq_false hz]
     repeat (first|refine oi ?_|refine wf' ?_)
     exact no (by unfold zTa; rintro (h|h|h|h); omega; omega; exact hz h.2.2.2.1; omega) _ hO
   ·repeat refine oi ?_
    exact no (by unfold zTa Ix; omega) _ hO
  ·repeat refine oi ?_
   exact no (by unfold zTa Ix; omega) _ hO
 repeat refine oi ?_
 refine zja (fun h1'''=>?_) (fun h1'''=>?_)
 ·repeat (first|refine oi ?_|refine ld hO 0 rfl rfl ?_)
  refine zja (fun h2=>?_) (fun h2=>?_)
  ·repeat (first|refine oi ?_|refine ld hO 0 rfl rfl ?_)
   refine zja (fun h3=>?_) (fun h3=>?_)
   ·repeat refine oi ?_
    refine zBa hO (Γ.length+0) (zqa rfl) (show _=slC c.to from rfl) rfl (by omega) ?_
    refine zaa b26 ?_
    refine zaa (zvL _ _) ?_
    by_cases hz:SZ c.to
    ·rw[decide_eq_true hz]
     repeat (first|refine oi ?_|refine wt ?_|refine ld hO 0 rfl rfl ?_)
     refine yes _ ?_ _ hO
     unfold zTa Ix
     exact⟨fun h=>.inr (.inr (.inr ⟨h1''',h,h2,h3,hz⟩)),fun h=>by rcases h with h|h|h|h <;> omega⟩
    ·rw[decide_eq_false hz]
     repeat (first|refine oi ?_|refine wf' ?_)
     exact no (by unfold zTa; rintro (h|h|h|h); omega; omega; omega; exact hz h.2.2.2.2) _ hO
   ·repeat refine oi ?_
    exact no (by unfold zTa Ix; omega) _ hO
  ·repeat refine oi ?_
   exact no (by unfold zTa Ix; omega) _ hO
 exact no (by unfold zTa Ix; omega) _ hO
theorem zmm(hO:St H Γ)(hv:RdC Γ v l)(hl:l.length≤1000000)(hk:∀ H',St H' Γ→K (.bool (decide (TOk l))) H'):wCall P zNg [v] H K:=by
 apply zmz; unfold zlz
 refine zDa (by rw[hv.1]) ?_
 refine zXq (fun k l' H'=>∃ y:Nat,y≤l.length∧k=l.length - y∧l'=[v,.bool false,v,int l.length,int y]∧St H' Γ∧∀ c ∈ l.take y,zTa c) _ _ ?_ l.length _ _ ⟨0,by omega,by omega,rfl,hO,by simp⟩
 clear hO
 rintro k l' H' ⟨y,hy,rfl,rfl,hO,hc⟩
 unfold zeq
 try simp only[zla,zma]
 repeat refine oi ?_
 refine zja (fun h2=>?_) (fun h2=>?_)
 ·rcases hv.2 with rfl|⟨p,cp,j,rfl,w,hj⟩
  ·simp at h2; omega
  have hyl:y < l.length:=by omega
  have e:0+((y:Nat):Int).toNat * 40=y * 40:=by rw[Int.toNat_natCast]; omega
  repeat refine oi ?_
  refine zBa hO j hj (show _=chC l[y] from ?_) rfl (by omega) ?_
  ·rw[e]; exact zUt l y hyl
  rw[zRE]
  refine zxa hO ?_
  intro q H hO
  refine zoa hO (Γ.length+0) (zqa rfl) rfl rfl rfl ?_
  intro H hO
  replace hO:=hO.set_r
  refine zia hO (Γ.length+0) (zqa rfl) rfl (by omega) ?_
  refine zbv hO ?_
  intro H hO
  by_cases hr:zTa l[y]
  ·rw[decide_eq_true hr]
   repeat (first|refine oi ?_|refine wf' ?_)
   exact⟨_,by omega,y+1,by omega,rfl,rfl,hO.left,zHD hyl hc hr⟩
  ·rw[decide_eq_false hr]
   repeat (first|refine oi ?_|refine wt ?_)
   try simp only[zla,zma]
   rw[decide_eq_false (show ¬ TOk l from fun h=>hr (h.2 _ (List.getElem_mem hyl)))] at hk
   exact hk _ hO.left
 ·have e:y=l.length:=by omega
  subst e
  rw[List.take_of_length_le (Nat.le_refl _)] at hc
  repeat refine cy ?_
  refine zDa (by rw[hv.1]) ?_
  repeat refine oi ?_
  have:=hk _ hO
  rw[show decide (TOk l)=decide ((l.length:Int)≤8) from decide_eq_decide.2 ⟨fun h=>by have:=h.1; omega,fun h=>⟨by omega,hc⟩⟩] at this
  exact this
set_option maxHeartbeats 2000000 in
theorem zFj(hO:St H Γ)(hv:RdC Γ v l)(hl:l.length≤1000000)(hk:∀ H',St H' Γ→K (.tuple [agg (tbC (zZa t l).1),int (zZa t l).2].toArray) H'):wCall P zIe [agg (tbC t),v] H K:=by
 apply zBu; unfold zVs
 refine zxa hO ?_
 intro p H hO
 rw[zdH]
 refine zxa hO ?_
 intro q H hO
 rw[List.append_assoc] at hO
 have hO:St H (Γ++[(p,⟨tbC t,true⟩),(q,⟨tbC tbz,true⟩)]):=hO
 refine zwa (fun l' H'=>l'=[v,ptr p 0,ptr q 0,int 0,.bool (decide ¬(TRight t∧TOk l))]∧St H' (Γ++[(p,⟨tbC t,true⟩),(q,⟨tbC tbz,true⟩)])) ?_ ?_
 ·refine zia hO (Γ.length+0) (zqa rfl) rfl (by omega) ?_
  refine zbd hO ?_
  intro H hO
  by_cases h:TRight t
  ·rw[decide_eq_true h]
   repeat (first|refine oi ?_|refine wf' ?_)
   refine zmm hO hv.app hl ?_
   intro H hO
   repeat refine oi ?_
   refine⟨?_,hO⟩
   rw[show (decide ¬(TRight t∧TOk l))=!decide (TOk l) by by_cases hf:TOk l <;> simp[h,hf]]
  ·rw[decide_eq_false h]
   repeat (first|refine oi ?_|refine wt ?_)
   refine⟨?_,hO⟩
   rw[show (decide ¬(TRight t∧TOk l))=true by simp[h]]
 clear hO
 rintro l' H ⟨rfl,hO⟩
 try simp only[zla,zma]
 refine zja (fun h=>?_) (fun h=>?_)
 ·rw[show zZa t l=(tbz,111) from if_neg h] at hk
  refine zaa b29 ?_
  refine zoa hO (Γ.length+1) (zqa rfl) rfl rfl rfl ?_
  intro H hO
  replace hO:=hO.set_r
  refine zia hO (Γ.length+1) (zqa rfl) rfl (by omega) ?_
  exact hk _ hO.left
 have h:=Decidable.not_not.1 h
 rw[show zZa t l=(match apL t l with|some t'=>(t',0)|none=>(tbz,111)) from if_pos h] at hk
 refine zDa (by rw[hv.1]) ?_
 refine zBn (fun k l' H'=>∃ (y:Nat) (t':Tb),y≤l.length∧k=l.length - y∧l'=[ptr p 0,ptr q 0,int 0,v,int l.length,int y]∧St H' (Γ++[(p,⟨tbC t',true⟩),(q,⟨tbC tbz,true⟩)])∧apL t l=apL t' (l.drop y)) _ _ ?_ l.length _ _ ⟨0,t,by omega,by omega,rfl,hO,rfl⟩
 clear hO
 rintro k l' H' ⟨y,t',hy,rfl,rfl,hO,ha⟩
 unfold zNl
 try simp only[zla,zma]
 repeat refine oi ?_
 refine zja (fun h2=>?_) (fun h2=>?_)
 ·rcases hv.2 with rfl|⟨pv,cp,j,rfl,w,hj⟩
  ·simp at h2; omega
  have hyl:y < l.length:=by omega
  have e:0+((y:Nat):Int).toNat * 40=y * 40:=by rw[Int.toNat_natCast]; omega
  have hcr:=h.2.2 _ (List.getElem_mem hyl)
  have had:apL t l=(match ap1 t' l[y] with|some t''=>apL t'' (l.drop (y+1))|none=>none):=by rw[ha,List.drop_eq_getElem_cons hyl]; rfl
  repeat refine oi ?_
  refine zBa hO j (zza hj) (show _=chC l[y] from ?_) rfl (by omega) ?_
  ·rw[e]; exact zUt l y hyl
  rw[zRE]
  refine zxa hO ?_
  intro b H hO
  rw[List.append_assoc] at hO
  generalize l[y]=c at *
  refine zoa hO (Γ.length+2) (zqa rfl) rfl rfl rfl ?_
  intro H hO
  replace hO:St H (Γ++[(p,⟨tbC t',true⟩),(q,⟨tbC tbz,true⟩),(b,⟨chC c,true⟩)]):=hO.set_r
  unfold ap1 at had
  unfold zTa at hcr
  refine zsd ?_
  by_cases h1:c.kind=1
  ·rw[if_pos h1] at had
   have hi:Ix c.slot:=by rcases hcr with h|h|h|h; exact h.2.1.1; all_goals omega
   have hi':=hi.bd
   repeat (first|refine oi ?_|refine wy ?_|refine ld hO 2 rfl rfl ?_)
   refine zBa hO (Γ.length+2) (zqa rfl) (show _=slC c.to from rfl) rfl (by omega) ?_
   repeat refine oi ?_
   refine zxp (t:=t') (x:=c.slot) hO (Γ.length+0) (zqa rfl) hi (by omega) ?_
   intro H hO
   replace hO:=hO.set_r
   refine zsd ?_
   try simp only[zla,zma]
   repeat (first|refine oi ?_|refine wn ?_|refine ld hO 2 rfl rfl ?_)
   refine zsd ?_
   try simp only[zla,zma]
   repeat (first|refine oi ?_|refine wn ?_|refine ld hO 2 rfl rfl ?_)
   exact⟨_,by omega,y+1,_,by omega,rfl,rfl,hO.keep 2,had⟩
  ·rw[if_neg h1] at had
   repeat (first|refine oi ?_|refine wn ?_|refine ld hO 2 rfl rfl ?_)
   refine zsd ?_
   try simp only[zla,zma]
   by_cases h2:c.kind=2
   ·rw[if_pos h2] at had
    repeat (first|refine oi ?_|refine wy ?_|refine ld hO 2 rfl rfl ?_)
    refine zua hO (Γ.length+0) (zqa rfl) rfl (show 72 < 75 by omega) (show _=tbC { t' with act:=c.n } from rfl) ?_
    intro H hO
    replace hO:=hO.set_r
    refine zsd ?_
    try simp only[zla,zma]
    repeat (first|refine oi ?_|refine wn ?_|refine ld hO 2 rfl rfl ?_)
    exact⟨_,by omega,y+1,_,by omega,rfl,rfl,hO.keep 2,had⟩
   ·rw[if_neg h2] at had
    repeat (first|refine oi ?_|refine wn ?_|refine ld hO 2 rfl rfl ?_)
    refine zsd ?_
    try simp only[zla,zma]
    by_cases h3:c.kind=3
    ·rw[if_pos h3] at had
     repeat (first|refine oi ?_|refine wy ?_|refine ld hO 2 rfl rfl ?_)
     refine zua hO (Γ.length+0) (zqa rfl) rfl (show 73 < 75 by omega) (show _=tbC { t' with boo:=c.n } from rfl) ?_
     intro H hO
     replace hO:=hO.set_r
     repeat (first|refine oi ?_|refine wn ?_|refine ld hO 2 rfl rfl ?_)
     exact⟨_,by omega,y+1,_,by omega,rfl,rfl,hO.keep 2,had⟩
    ·rw[if_neg h3] at had
     have h4:c.kind=4:=by omega
     repeat (first|refine oi ?_|refine wy ?_|refine wn ?_|refine ld hO 0 rfl rfl ?_|refine ld hO 2 rfl rfl ?_)
     refine zja (fun h5=>?_) (fun h5=>?_)
     ·rw[if_pos h5] at had
      rw[had] at hk
      refine zaa b29 ?_
      refine zoa hO (Γ.length+1) (zqa rfl) rfl rfl rfl ?_
      intro H hO
      replace hO:=hO.set_r
      try simp only[zla,zma]
      refine zia hO (Γ.length+1) (zqa rfl) rfl (by omega) ?_
      exact hk _ hO.left
     ·rw[if_neg h5] at had
      repeat (first|refine oi ?_|refine ld hO 2 rfl rfl ?_)
      refine zua hO (Γ.length+0) (zqa rfl) rfl (show 74 < 75 by omega) (show _=tbC { t' with flo:=c.ver } from rfl) ?_
      intro H hO
      replace hO:=hO.set_r
      repeat refine oi ?_
      exact⟨_,by omega,y+1,_,by omega,rfl,rfl,hO.keep 2,had⟩
 ·have e:y=l.length:=by omega
  subst e
  rw[List.drop_of_length_le (Nat.le_refl _)] at ha
  rw[show apL t l=some t' from ha] at hk
  repeat refine cy ?_
  try simp only[zla,zma]
  refine zia hO (Γ.length+0) (zqa rfl) rfl (by omega) ?_
  refine zoa hO (Γ.length+1) (zqa rfl) rfl rfl rfl ?_
  intro H hO
  replace hO:=hO.set_r
  refine zia hO (Γ.length+1) (zqa rfl) rfl (by omega) ?_
  exact hk _ hO.left
end
end J
set_option maxRecDepth 100000
namespace J
open Go Go.Ab
variable{H:Heap}{Γ:List (Nat × Blk)}{K:VH}{v w x:Value}{xs ys:List Int}
section
variable{s:Sl}{t:Tb}{c:Ch}{l:List Ch}
set_option maxHeartbeats 4000000 in
theorem znm(hO:St H Γ)(hv:RdC Γ v l)(hl:l.length≤1000)(hver:∀ c ∈ l,0≤c.ver)(hk:MadeB Γ K (lBy l)):wCall P zxf [v] H K:=by
 apply zkz; unfold zjz
 refine zEa hO (zkm _) ?_
 intro r H hO
 refine zmm hO hv.app (by omega) ?_
 intro H hO
 have h0:OwnB (sl r 0 0 3) [] []:=.inr ⟨r,.inr ⟨rfl,rfl⟩,rfl,Nat.zero_le _,rfl⟩
 have hO:St H (Γ++zGa (sl r 0 0 3) []):=hO
 by_cases hok:TOk l
 ·rw[decide_eq_true hok]
  unfold lBy at hk
  rw[if_pos hok] at hk
  have hl8:=hok.1
  repeat (first|refine oi ?_|refine wf' ?_)
  refine zDa (by rw[hv.1]) ?_
  refine zDa (zNI (by omega) (by omega)) ?_
  rw[Int.toNat_natCast]
  refine zEa hO (zti _ _ _) ?_
  intro q H hO
  refine zAb (ys:=[((l.length:Nat):Int)]) hO h0 (by simp) rfl (.inr rfl) ?_
  rw[List.nil_append,← zUm (show l.length < 256 by omega)]
  intro H v1 c1 hO h1
  refine zDa (by rw[hv.1]) ?_
  refine zWq (fun k l' H'=>∃ (y:Nat) (v':Value) (cs':List Value),y≤l.length∧k=l.length - y∧l'=[zya,v',v,int l.length,int y]∧St H' (Γ++zGa v' cs')∧OwnB v' (leN 1 l.length++(l.take y).flatMap cBy) cs') _ _ ?_ l.length _ _ ⟨0,v1,c1,by omega,by omega,rfl,hO,by simpa using h1⟩
  clear hO h1 h0
  rintro k l' H' ⟨y,v',cs',hy,rfl,rfl,hO,hv'⟩
  unfold zcq
  try simp only[zla,zma]
  repeat refine oi ?_
  refine zja (fun h2=>?_) (fun h2=>?_)
  ·rcases hv.2 with rfl|⟨pv,cp,j,rfl,w,hj⟩
   ·simp at h2; omega
   have hyl:y < l.length:=by omega
   have e:0+((y:Nat):Int).toNat * 40=y * 40:=by rw[Int.toNat_natCast]; omega
   have hcr:=hok.2 _ (List.getElem_mem hyl)
   have hvr:=hver _ (List.getElem_mem hyl)
   have hlen:=zXx (l.take y)
   rw[List.length_take,Nat.min_eq_left (by omega)] at hlen
   have hend:leN 1 l.length++(l.take (y+1)).flatMap cBy=leN 1 l.length++(l.take y).flatMap cBy++cBy l[y]:=by rw[zgH hyl,List.append_assoc]
   have hlen':(leN 1 l.length++(l.take y).flatMap cBy).length≤60000:=by rw[List.length_append,zhb]; omega
   generalize leN 1 l.length++(l.take y).flatMap cBy=xs at *
   repeat refine oi ?_
   refine zBa hO j (zza hj) (show _=chC l[y] from ?_) rfl (by omega) ?_
   ·rw[e]; exact zUt l y hyl
   rw[zRE]
   refine zxa hO ?_
   intro b H hO
   generalize l[y]=c at *
   replace hO:=St.flip hO
   refine zoa hO (Γ.length+0) (zqa rfl) rfl rfl rfl ?_
   intro H hO
   replace hO:St H (Γ++((b,⟨chC c,true⟩)::zGa v' cs')):=hO.set_r
   replace hO:St H ((Γ++[(b,⟨chC c,true⟩)])++zGa v' cs'):=by rw[List.append_assoc]; exact hO
   have hkd:1≤c.kind∧c.kind≤4:=by rcases hcr with h|h|h|h <;> omega
   have fin:∀ (H':Heap) (v'':Value) (cs'':List Value) (A:List (Nat × Blk)),St H' ((Γ++A)++zGa v'' cs'')→OwnB v'' (xs++cBy c) cs''→∃ k',k' < l.length - y∧∃ (z:Nat) (v':Value) (cs':List Value),z≤l.length∧k'=l.length - z∧[zya,v'',sl pv 0 l.length cp,int l.length,int ((y:Int)+1)]=[zya,v',sl pv 0 l.length cp,int l.length,int z]∧St H' (Γ++zGa v' cs')∧OwnB v' (leN 1 l.length++(l.take z).flatMap cBy) cs':=fun H' v'' cs'' A hO' h''=>⟨_,by omega,y+1,v'',cs'',by omega,rfl,rfl,St.mid hO',by rw[hend]; exact h''⟩
   rw[show cBy c=leN 1 c.kind.toNat++(if c.kind=1 then leN 1 c.slot.toNat++zIA c.to else if c.kind=2 then leN 1 c.n.toNat else if c.kind=3 then leN 1 (c.n+1).toNat else leN 8 c.ver.toNat) from rfl] at fin
   rw[zUm (show c.kind.toNat < 256 by omega)] at fin
   repeat refine oi ?_
   refine zha hO (Γ.length+0) (zza (zqa rfl)) rfl ?_
   refine zDa (zNI (by omega) (by omega)) ?_
   refine zEa hO (zti _ _ _) ?_
   intro q H hO
   refine zAb (ys:=[((c.kind.toNat:Nat):Int)]) hO hv' (by simp; omega) rfl (.inr rfl) ?_
   intro H v2 c2 hO h2
   repeat refine oi ?_
   refine zha hO (Γ.length+0) (zza (zqa rfl)) rfl ?_
   repeat refine oi ?_
   unfold zTa at hcr
   by_cases k1:c.kind=1
   ·rw[if_pos k1] at fin
    have hi:Ix c.slot∧SRight c.to:=by rcases hcr with h|h|h|h; exact h.2.1; all_goals omega
    have hib:=hi.1.bd
    rw[zUm (show c.slot.toNat < 256 by omega)] at fin
    repeat (first|refine oi ?_|refine wy ?_)
    refine zha hO (Γ.length+0) (zza (zqa rfl)) rfl ?_
    refine zDa (zNI (by omega) (by omega)) ?_
    refine zEa hO (zti _ _ _) ?_
    intro q H hO
    refine zAb (ys:=[((c.slot.toNat:Nat):Int)]) hO h2 (by simp; omega) rfl (.inr rfl) ?_
    intro H v3 c3 hO h3
    repeat refine oi ?_
    refine zBa hO (Γ.length+0) (zza (zqa rfl)) (show _=slC c.to from rfl) rfl (by omega) ?_
    refine zhg hO ?_
    have hl5:=zWx (s:=c.to)
    intro H v4 c4 hO h4
    refine zsc hO h3 h4 (by simp; omega) ?_
    intro H v5 c5 hO h5
    repeat refine oi ?_
    refine fin _ v5 c5 _ hO ?_
    simpa using h5
   rw[if_neg k1] at fin
   repeat (first|refine oi ?_|refine wn ?_)
   by_cases k2:c.kind=2
   ·rw[if_pos k2] at fin
    have hi:Ix c.n:=by rcases hcr with h|h|h|h; omega; exact h.2.1; all_goals omega
    have hib:=hi.bd
    rw[zUm (show c.n.toNat < 256 by omega)] at fin
    repeat (first|refine oi ?_|refine wy ?_)
    refine zha hO (Γ.length+0) (zza (zqa rfl)) rfl ?_
    refine zDa (zNI (by omega) (by omega)) ?_
    refine zEa hO (zti _ _ _) ?_
    intro q H hO
    refine zAb (ys:=[((c.n.toNat:Nat):Int)]) hO h2 (by simp; omega) rfl (.inr rfl) ?_
    intro H v3 c3 hO h3
    repeat refine oi ?_
    refine fin _ v3 c3 _ hO ?_
    simpa using h3
   rw[if_neg k2] at fin
   repeat (first|refine oi ?_|refine wn ?_)
   by_cases k3:c.kind=3
   ·rw[if_pos k3] at fin
    have hi:-1≤c.n∧c.n≤1:=by rcases hcr with h|h|h|h; omega; omega; (rcases h.2.1 with h|h; omega; have:=h.bd; omega); omega
    rw[zUm (show (c.n+1).toNat < 256 by omega)] at fin
    repeat (first|refine oi ?_|refine wy ?_)
    refine zha hO (Γ.length+0) (zza (zqa rfl)) rfl ?_
    repeat refine oi ?_
    refine zDa (zNI (by omega) (by omega)) ?_
    refine zEa hO (zti _ _ _) ?_
    intro q H hO
    refine zAb (ys:=[(((c.n+1).toNat:Nat):Int)]) hO h2 (by simp; omega) rfl (.inr rfl) ?_
    intro H v3 c3 hO h3
    repeat refine oi ?_
    refine fin _ v3 c3 _ hO ?_
    simpa using h3
   rw[if_neg k3] at fin
   have k4:c.kind=4:=by omega
   have hi:c.ver≤281474976710656:=by rcases hcr with h|h|h|h; omega; omega; omega; exact h.2.1
   repeat (first|refine oi ?_|refine wy ?_|refine wn ?_)
   refine zha hO (Γ.length+0) (zza (zqa rfl)) rfl ?_
   rw[zuf hvr]
   refine zSb (size:=8) hO (by omega) (by omega) ?_
   intro H v3 c3 hO h3
   refine zsc hO h2 h3 (by simp[zhb]; omega) ?_
   intro H v4 c4 hO h4
   repeat refine oi ?_
   refine fin _ v4 c4 _ hO ?_
   simpa using h4
  ·have e:y=l.length:=by omega
   subst e
   rw[List.take_of_length_le (Nat.le_refl _)] at hv'
   repeat refine cy ?_
   exact hk _ _ _ hO hv'
 ·rw[decide_eq_false hok]
  unfold lBy at hk
  rw[if_neg hok] at hk
  repeat (first|refine oi ?_|refine wt ?_)
  exact hk _ _ _ hO h0
end
end J
