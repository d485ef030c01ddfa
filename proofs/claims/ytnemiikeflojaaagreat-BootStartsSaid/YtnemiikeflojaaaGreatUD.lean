/- texts of the proof, one behind the other -/
import Derived.Test.YtnemiikeflojaaaGreatUC
set_option linter.unusedSectionVars false
set_option linter.unusedVariables false
set_option linter.unusedSimpArgs false
set_option maxRecDepth 100000
namespace J
open Go Go.Ab
variable{H:Heap}{Γ Γ2:List (Nat × Blk)}{K:VH}{v w x:Value}{xs ys bs:List Int}{j p:Nat}{e:Int}{ss tt:List (List Int)}
abbrev S64(ss:List (List Int)):Prop:=∀ s ∈ ss,s.length=64
def RdS(Γ:List (Nat × Blk))(v:Value)(ss:List (List Int)):Prop:=
 (v=zya∧ss=[])∨∃ p o c,v=sl p o ss.length c∧(c=128∨c=129)∧(ss=[]∨∃ (j:Nat) (b:Blk),Γ[j]?=some (p,b)∧(b.cells.drop o).take (ss.length * 64)=zgf ss)
theorem RdS.lenSl(h:RdS Γ v ss):Ab.lenSl v H=some (int ss.length,H):=by
 rcases h with⟨rfl,rfl⟩|⟨p,o,c,rfl,_⟩ <;> rfl
theorem RdS.app{Δ:List (Nat × Blk)}(h:RdS Γ v ss):RdS (Γ++Δ) v ss:=by
 rcases h with h|⟨p,o,c,h1,h2,h3|⟨j,b,h3,h4⟩⟩
 ·exact .inl h
 ·exact .inr ⟨p,o,c,h1,h2,.inl h3⟩
 ·exact .inr ⟨p,o,c,h1,h2,.inr ⟨j,b,zza h3,h4⟩⟩
theorem RdS.app'{Δ:List (Nat × Blk)}(h:RdS Δ v ss):RdS (Γ++Δ) v ss:=by
 rcases h with h|⟨p,o,c,h1,h2,h3|⟨j,b,h3,h4⟩⟩
 ·exact .inl h
 ·exact .inr ⟨p,o,c,h1,h2,.inl h3⟩
 ·exact .inr ⟨p,o,c,h1,h2,.inr ⟨Γ.length+j,b,zqa h3,h4⟩⟩
theorem RdS.own(h:Own 64 v ss.length (zgf ss)):RdS (zGa v (zgf ss)) v ss:=by
 rcases h with⟨rfl,h0,_⟩|⟨p,rfl|rfl,hl⟩
 ·exact .inl ⟨rfl,List.length_eq_zero_iff.1 h0⟩
 ·exact .inr ⟨p,0,128,rfl,.inl rfl,.inr ⟨0,⟨zgf ss,true⟩,rfl,by rw[List.drop_zero]; exact List.take_of_length_le (Nat.le_of_eq hl)⟩⟩
 ·exact .inr ⟨p,0,129,rfl,.inr rfl,.inr ⟨0,⟨zgf ss,true⟩,rfl,by rw[List.drop_zero]; exact List.take_of_length_le (Nat.le_of_eq hl)⟩⟩
theorem zKx(h:S64 ss):(zgf ss).length=ss.length * 64:=zno fun s hs=>by rw[zta]; exact h s hs
theorem RdS.at(hs:S64 ss)(h:RdS Γ v ss){i:Nat}(hi:i < ss.length):∃ (p o c j:Nat) (b:Blk),v=sl p o ss.length c∧Γ[j]?=some (p,b)∧(b.cells.drop (o+i * 64)).take 64=by8 ss[i]∧o+i * 64+64≤b.cells.length:=by
 rcases h with⟨rfl,rfl⟩|⟨p,o,c,rfl,_,rfl|⟨j,b,h3,h4⟩⟩
 ·simp at hi
 ·simp at hi
 ·refine⟨p,o,c,j,b,rfl,h3,?_,?_⟩
  ·have h5:=zNm (f:=by8) (o:=0) (m:=64) (fun s hs'=>by rw[zta]; exact hs s hs') hi (by omega)
   have h6:(((b.cells.drop o).take (ss.length * 64)).drop (i * 64+0)).take 64=(((zgf ss)).drop (i * 64+0)).take 64:=by rw[h4]
   rw[List.drop_take,List.drop_drop,List.take_take,Nat.min_eq_left (by omega),Nat.add_zero] at h6
   rw[h6]
   rw[Nat.add_zero] at h5
   refine h5.trans ?_
   rw[List.drop_zero]
   exact List.take_of_length_le (by rw[zta,hs _ (List.getElem_mem hi)]; exact Nat.le_refl _)
  ·have h7:=congrArg List.length h4
   rw[List.length_take,List.length_drop,zKx hs] at h7
   omega
abbrev InhS(v:Value)(ss:List (List Int))(v':Value)(tt:List (List Int)):Prop:=∀ Γ':List (Nat × Blk),RdS Γ' v ss→RdS Γ' v' tt
theorem InhS.none{v:Value}{ss:List (List Int)}:InhS v ss zya []:=fun _ _=>.inl ⟨rfl,rfl⟩
theorem zaL{len n:Nat}(h:n≤len):zpc len (some (int (n:Int)))=some n:=by
 show (match leB 0 (n:Int) with|true=>(match Nat.ble (n:Int).toNat len with|true=>some (n:Int).toNat|false=>none)|false=>none)=_
 rw[zhc,decide_eq_true (by omega)]
 simp only[Int.toNat_natCast]
 rw[Nat.ble_eq_true_of_le h]
theorem zSB{len n:Nat}(h:n≤len):zdd len (some (int (n:Int)))=some n:=by
 show (match leB 0 (n:Int) with|true=>(match Nat.ble (n:Int).toNat len with|true=>some (n:Int).toNat|false=>none)|false=>none)=_
 rw[zhc,decide_eq_true (by omega)]
 simp only[Int.toNat_natCast]
 rw[Nat.ble_eq_true_of_le h]
theorem zWz(hs:S64 ss)(h:RdS Γ v ss){n:Nat}(hn:n≤ss.length):∃ v',zLa 64 v none (some (int n)) none=some v'∧InhS v ss v' (ss.take n):=by
 rcases h with⟨rfl,rfl⟩|⟨p,o,c,rfl,hc,_⟩
 ·have:n=0:=by simpa using hn
  subst this
  exact⟨zya,rfl,.none⟩
 ·have he:∃ c',(c'=128∨c'=129)∧zLa 64 (sl p o ss.length c) none (some (int n)) none=some (sl p o n c'):=by
   have hh:=zaL hn
   generalize int (n:Int)=hv at hh ⊢
   rcases hc with rfl|rfl
   ·exact⟨128,.inl rfl,by simp[zLa,hh,zdd,zGj,zqc]⟩
   ·exact⟨cond (Nat.beq n ss.length) 129 128,by cases Nat.beq n ss.length <;> simp,by simp[zLa,hh,zdd,zGj,zqc]⟩
  obtain⟨c',hc',he⟩:=he
  refine⟨_,he,fun Γ' h=>?_⟩
  rcases h with⟨h,_⟩|⟨p',o',c'',heq,_,h⟩
  ·cases h
  cases heq
  have hl:(ss.take n).length=n:=by rw[List.length_take]; omega
  refine .inr ⟨p,o,c',by rw[hl],hc',?_⟩
  rcases h with rfl|⟨j,b,h1,h2⟩
  ·exact .inl (by simp)
  ·refine .inr ⟨j,b,h1,?_⟩
   have h3:((b.cells.drop o).take (ss.length * 64)).take (n * 64)=(zgf ss).take (n * 64):=by rw[h2]
   rw[List.take_take,Nat.min_eq_left (by omega)] at h3
   rw[hl,h3]
   have h4:zgf ss=zgf (ss.take n)++zgf (ss.drop n):=by unfold zgf; rw[← List.flatMap_append,List.take_append_drop]
   rw[h4,List.take_left' (by rw[zKx (fun s h=>hs s (List.mem_of_mem_take h)),hl])]
theorem zHG(hs:S64 ss)(h:RdS Γ v ss){n:Nat}(hn:n≤ss.length):∃ v',zLa 64 v (some (int n)) none none=some v'∧InhS v ss v' (ss.drop n):=by
 rcases h with⟨rfl,rfl⟩|⟨p,o,c,rfl,hc,_⟩
 ·have:n=0:=by simpa using hn
  subst this
  exact⟨zya,rfl,.none⟩
 ·have he:∃ c',(c'=128∨c'=129)∧zLa 64 (sl p o ss.length c) (some (int n)) none none=some (sl p (o+n * 64) (ss.length - n) c'):=by
   have hh:=zSB hn
   generalize int (n:Int)=hv at hh ⊢
   rcases hc with rfl|rfl
   ·exact⟨128,.inl rfl,by simp[zLa,hh,zpc,zGj,zqc]⟩
   ·exact⟨129,.inr rfl,by simp[zLa,hh,zpc,zGj,zqc]⟩
  obtain⟨c',hc',he⟩:=he
  refine⟨_,he,fun Γ' h=>?_⟩
  rcases h with⟨h,_⟩|⟨p',o',c'',heq,_,h⟩
  ·cases h
  cases heq
  have hl:(ss.drop n).length=ss.length - n:=by rw[List.length_drop]
  refine .inr ⟨p,o+n * 64,c',by rw[hl],hc',?_⟩
  rcases h with rfl|⟨j,b,h1,h2⟩
  ·exact .inl (by simp)
  ·refine .inr ⟨j,b,h1,?_⟩
   have h3:((b.cells.drop o).take (ss.length * 64)).drop (n * 64)=(zgf ss).drop (n * 64):=by rw[h2]
   rw[List.drop_take,List.drop_drop] at h3
   rw[hl,Nat.sub_mul,h3]
   have h4:zgf ss=zgf (ss.take n)++zgf (ss.drop n):=by unfold zgf; rw[← List.flatMap_append,List.take_append_drop]
   rw[h4,List.drop_left' (by rw[zKx (fun s h=>hs s (List.mem_of_mem_take h)),List.length_take,Nat.min_eq_left hn])]
theorem zIG{K:VH}(hO:St H Γ)(hs:S64 ss)(h:RdS Γ v ss){i:Nat}(hi:i < ss.length)(hk:K (sec ss[i]) H):opP (zWa 64 v (int i)) fun t=>opW (zna 64 t H) K:=by
 obtain⟨p,o,c,j,b,rfl,h1,h2,h3⟩:=RdS.at hs h hi
 refine zaa (zHa (by omega) (by omega)) ?_
 rw[Int.toNat_natCast]
 exact zBa hO j h1 h2 (by rw[zta]; exact hs _ (List.getElem_mem hi)) (by omega) hk
theorem zwE(hO:St H Γ)(hs:S64 ss)(ht:S64 tt)(h1:RdS Γ v ss)(h2:RdS Γ w tt)(hl:ss.length≤1000000)(hk:K (.bool (decide (ss=tt))) H):wCall P zYa [v,w] H K:=by
 apply zOd; unfold zic
 refine zDa h1.lenSl ?_
 refine zDa h2.lenSl ?_
 refine zaa zKa ?_
 refine zja (fun h=>?_) (fun h=>?_)
 ·rw[decide_eq_false (fun h'=>by subst h'; omega)] at hk
  exact hk
 have hlt:tt.length=ss.length:=by omega
 refine zDa h1.lenSl ?_
 refine zhd (fun k l' H'=>∃ y:Nat,y≤ss.length∧k=ss.length - y∧l'=[v,w,.bool false,int ss.length,int y]∧H'=H∧ss.take y=tt.take y) _ _ ?_ ss.length _ _ ⟨0,by omega,rfl,rfl,rfl,rfl⟩
 rintro k l' H' ⟨y,hy,rfl,rfl,rfl,he⟩
 unfold zUb
 try simp only[zla,zma]
 refine zaa zMa ?_
 refine zja (fun h3=>?_) (fun h3=>?_)
 ·have hyl:y < ss.length:=by omega
  refine zIG hO hs h1 hyl ?_
  refine zIG hO ht h2 (i:=y) (by omega) ?_
  refine zaa (neS _ (hs _ (List.getElem_mem _)) (ht _ (List.getElem_mem _))) ?_
  refine zja (fun h4=>?_) (fun h4=>?_)
  ·rw[decide_eq_false (fun h'=>by subst h'; exact h4 rfl)] at hk
   exact hk
  ·repeat (first|refine oi ?_|refine ow ?_|refine wy ?_|refine wn ?_|refine wt ?_|refine wf' ?_|refine cy ?_|refine cn ?_)
   refine⟨_,by omega,y+1,by omega,rfl,rfl,rfl,?_⟩
   rw[List.take_succ_eq_append_getElem hyl,List.take_succ_eq_append_getElem (by omega),he,Decidable.not_not.1 h4]
 ·have ey:y=ss.length:=by omega
  subst ey
  rw[List.take_length,← hlt,List.take_length] at he
  refine zgb rfl ?_
  rw[decide_eq_true he] at hk
  exact hk
def zZg(ss:List (List Int)):List Int:=ss.flatMap fun s=>s.take 63
theorem ztp(h:S64 ss):(zZg ss).length=ss.length * 63:=by
 induction ss with
 | nil=>rfl
 | cons s ss ih=>
  show (s.take 63++zZg ss).length=_
  rw[List.length_append,ih (fun x hx=>h x (List.mem_cons_of_mem _ hx)),List.length_take,h s List.mem_cons_self,List.length_cons]; omega
theorem zxE(hO:St H Γ)(hs:S64 ss)(h1:RdS Γ v ss)(hl:ss.length≤1000000)(hk:MadeB Γ K (zZg ss)):wCall P zyg [v] H K:=by
 apply zMu; unfold zlt
 refine zDa h1.lenSl ?_
 refine zYn (fun k l' H'=>∃ (y:Nat) (v':Value) (cs':List Value),y≤ss.length∧k=ss.length - y∧l'=[zya,v',v,int ss.length,int y]∧St H' (Γ++zGa v' cs')∧OwnB v' (zZg (ss.take y)) cs') _ _ ?_ ss.length _ _ ⟨0,zya,[],by omega,rfl,rfl,by show St H (Γ++[]); rw[List.append_nil]; exact hO,.nil⟩
 clear hO
 rintro k l' H ⟨y,v',cs',hy,rfl,rfl,hO,hv'⟩
 unfold zbm
 try simp only[zla,zma]
 refine zaa zMa ?_
 refine zja (fun h3=>?_) (fun h3=>?_)
 ·have hyl:y < ss.length:=by omega
  have hsl:=hs _ (List.getElem_mem hyl)
  refine zIG hO hs h1.app hyl ?_
  rw[zcS]
  refine zxa hO ?_
  clear hO
  intro p5 H hO
  refine zoa hO ((Γ++zGa v' cs').length+0) (zqa rfl) (by rw[zta]; rfl) (by rw[zta]; exact hsl) (ztb _) ?_
  clear hO
  intro H hO
  replace hO:=St.rot hO.set_r
  replace hO:St H ((Γ++[(p5,⟨by8 ss[y],true⟩)])++zGa v' cs'):=hO
  obtain⟨c1,e1,hc1⟩:=zqp (n:=64) (p:=p5) (o:=0) (h:=63) (b:=⟨by8 ss[y],true⟩) hO (Γ.length+0) (zza (zqa rfl)) (by omega) (by show _≤(by8 ss[y]).length; rw[zta,hsl]; decide) (by omega) (by omega)
  refine zaa e1 ?_
  have hr:RdB (Γ++[(p5,(⟨by8 ss[y],true⟩:Blk))]) (sl p5 0 (63:Int).toNat c1) (ss[y].take 63):=by
   refine .inr ⟨p5,0,c1,?_,hc1,.inr ⟨Γ.length+0,⟨by8 ss[y],true⟩,zqa rfl,?_⟩⟩
   ·rw[List.length_take,hsl]; rfl
   ·rw[List.drop_zero,List.length_take,hsl]
    simp[by8,List.map_take]
  have hpl:=ztp (ss:=ss.take y) (fun s h=>hs s (List.mem_of_mem_take h))
  rw[List.length_take,Nat.min_eq_left hy] at hpl
  refine zGe hO hv' hr (by rw[hpl,List.length_take]; omega) ?_
  clear hO
  intro H v2 c2 hO h2
  repeat (first|refine oi ?_|refine ow ?_|refine wy ?_|refine wn ?_|refine wt ?_|refine wf' ?_|refine cy ?_|refine cn ?_)
  refine⟨_,by omega,y+1,v2,c2,by omega,rfl,rfl,St.mid hO,?_⟩
  rw[List.take_succ_eq_append_getElem hyl]
  unfold zZg
  rw[List.flatMap_append]
  show OwnB v2 (_++(ss[y].take 63++[])) c2
  rw[List.append_nil]
  exact h2
 ·have ey:y=ss.length:=by omega
  subst ey
  rw[List.take_length] at hv'
  refine zgb rfl ?_
  exact hk _ _ _ hO hv'
def zRb(n:Int):Nat:=if n < 0∨4000 < n then 0 else (n.toNat+79) / 63
theorem zJG{a:Nat}(h:a≤1000000):(zsa P .quo 3 true).f (int a) (.int .i64 63)=some (int ((a / 63:Nat):Int)):=by
 rw[zIc _ _ rfl]
 show (match eqB (63:Int) 0 with|true=>none|false=>some (Value.int .i64 (zod .i64 ((a:Int).tdiv 63))))=_
 rw[zmh,decide_eq_false (by omega)]
 show some (Value.int .i64 (zod .i64 ((a / 63:Nat):Int)))=_
 rw[zOy (by omega) (by omega)]
theorem zXz{n:Int}(hk:K (int (zRb n)) H):wCall P zuh [int n] H K:=by
 apply zrx; unfold zWv
 unfold zRb at hk
 refine zwa (fun l' H'=>l'=[int n]∧H'=H∧¬ (n < 0∨4000 < n)) ?_ ?_
 ·refine zaa zMa ?_
  refine zja (fun h=>?_) (fun h=>?_)
  ·rw[if_pos (.inl h)] at hk
   rw[decide_eq_true h]
   repeat (first|refine oi ?_|refine ow ?_|refine wy ?_|refine wn ?_|refine wt ?_|refine wf' ?_|refine cy ?_|refine cn ?_)
   exact hk
  ·rw[decide_eq_false h]
   refine zaa zkc ?_
   refine zaa zRa ?_
   refine zja (fun h2=>?_) (fun h2=>?_)
   ·rw[if_pos (.inr h2)] at hk
    exact hk
   ·exact⟨rfl,rfl,by omega⟩
 rintro l' H' ⟨rfl,rfl,h⟩
 try simp only[zla,zma]
 rw[if_neg h] at hk
 have e1:13+n+4+63 - 1=((n.toNat+79:Nat):Int):=by omega
 refine zaa (zxb (by omega) (by omega)) ?_
 refine zaa (zxb (by omega) (by omega)) ?_
 refine zaa (zxb (by omega) (by omega)) ?_
 refine zaa (zae (by omega) (by omega)) ?_
 rw[e1]
 refine zaa (zJG (by omega)) ?_
 exact hk
end J
set_option maxRecDepth 100000
namespace J
open Go Go.Ab
variable{H:Heap}{Γ Γ2:List (Nat × Blk)}{K:VH}{v w x:Value}{xs ys bs:List Int}{j p:Nat}{e:Int}{ss tt:List (List Int)}
theorem zDf{n:Nat}(h:n≤xs.length):tkB xs 0 n=xs.take n∧tkR xs 0 n=xs.drop n∧tkE xs 0 n=0:=⟨if_pos ⟨rfl,h⟩,if_pos ⟨rfl,h⟩,if_pos ⟨rfl,h⟩⟩
theorem zyM{a b:Int}(ha:0≤a∧a≤255)(hb:0≤b∧b≤255)(h:UInt8.ofNat a.toNat=UInt8.ofNat b.toNat):a=b:=by
 have:=congrArg UInt8.toNat h
 rw[UInt8.toNat_ofNat',UInt8.toNat_ofNat',Nat.mod_eq_of_lt (by omega),Nat.mod_eq_of_lt (by omega)] at this
 omega
theorem zKG:∀ {xs ys:List Int},By xs→By ys→(xs.map fun n=>UInt8.ofNat n.toNat)=(ys.map fun n=>UInt8.ofNat n.toNat)→xs=ys
 | [],[],_,_,_=>rfl
 | [],_::_,_,_,h=>by simp at h
 | _::_,[],_,_,h=>by simp at h
 | x::xs,y::ys,hx,hy,h=>by
  simp only[List.map_cons,List.cons.injEq] at h
  rw[zyM (hx x List.mem_cons_self) (hy y List.mem_cons_self) h.1,zKG (fun z hz=>hx z (List.mem_cons_of_mem _ hz)) (fun z hz=>hy z (List.mem_cons_of_mem _ hz)) h.2]
theorem zbL(t:TypeId)(c:Bool)(hx:By xs)(hy:By ys):(zsa P .eql t c).f (zLp xs) (zLp ys)=some (.bool (decide (xs=ys))):=by
 rw[str_eq]
 by_cases h:xs=ys
 ·subst h; simp
 ·rw[decide_eq_false h]
  have:¬ ((xs.map fun n=>UInt8.ofNat n.toNat)=(ys.map fun n=>UInt8.ofNat n.toNat)):=fun h'=>h (zKG hx hy h')
  congr 2
  simpa using this
theorem zLG(t:TypeId)(c:Bool)(hx:By xs)(hy:By ys):(zsa P .neq t c).f (zLp xs) (zLp ys)=some (.bool (decide (xs≠ys))):=by
 have h1:(zsa P .neq t c).f (zLp xs) (zLp ys)=some (.bool (!((xs.map fun n=>UInt8.ofNat n.toNat) == ys.map fun n=>UInt8.ofNat n.toNat))):=rfl
 have h2:=zbL t c hx hy
 rw[str_eq] at h2
 have h3:=Option.some.inj h2
 simp only[Value.bool.injEq] at h3
 rw[h1,h3]
 simp
theorem zSN:(Value.string ⟨#[66,74]⟩)=zLp [66,74]:=rfl
def zah(s:List Int):Nat:=leV ((s.drop 2).take 1)
def zMr(s:List Int):Nat:=leV ((s.drop 3).take 8)
def zue(s:List Int):Nat:=leV ((s.drop 11).take 2)
def zAk(ss:List (List Int))(s:List Int):List Int:=((zZg (ss.take (zRb (zue s)))).drop 13).take (zue s)
def zCD(ss:List (List Int))(s:List Int):Prop:=s.take 2≠[66,74]∨zRb (zue s)=0∨ss.length < zRb (zue s)
instance (ss:List (List Int)) (s:List Int):Decidable (zCD ss s):=by unfold zCD; infer_instance
structure Fr where
 kind:Nat
 seq:Nat
 body:List Int
 many:Nat
def fr0:Fr:=⟨0,0,[],0⟩
open Classical in
noncomputable def zPd(ss:List (List Int)):Fr:=match ss with
 | []=>fr0
 | s::r=>if zCD (s::r) s then fr0 else if zih (zah s) (zMr s) (zAk (s::r) s)≠(s::r).take (zRb (zue s)) then fr0 else⟨zah s,zMr s,zAk (s::r) s,zRb (zue s)⟩
theorem zjj{kind seq:Nat}{body:List Int}:S64 (zih kind seq body):=by
 unfold zih
 split
 ·intro s hs; cases hs
 ·exact zVz
theorem zQm{xs:List Int}(hb:By xs)(n:Nat):leV (xs.take n) < 256 ^ n:=by
 have:=zFt (xs.take n) fun x hx=>hb x (List.mem_of_mem_take hx)
 exact Nat.lt_of_lt_of_le this (Nat.pow_le_pow_right (by omega) (by rw[List.length_take]; omega))
theorem zMG{s:List Int}(hb:By s):zue s < 65536:=zQm (fun x hx=>hb x (List.mem_of_mem_drop hx)) 2
theorem zLx{s:List Int}(hb:By s):zah s < 256:=zQm (fun x hx=>hb x (List.mem_of_mem_drop hx)) 1
theorem zTB{s:List Int}(hb:By s):zMr s < 2 ^ 64:=zQm (fun x hx=>hb x (List.mem_of_mem_drop hx)) 8
abbrev MadeF(Γ:List (Nat × Blk))(K:VH)(f:Fr):Prop:=∀ (H':Heap) (v':Value) (cs':List Value),St H' (Γ++zGa v' cs')→OwnB v' f.body cs'→K (.tuple [zib .u8 f.kind,zib .u64 f.seq,v',int f.many].toArray) H'
theorem MadeF.none(h:MadeF Γ K fr0)(hO:St H Γ):K (.tuple [.int .u8 0,.int .u64 0,zya,.int .i64 0].toArray) H:=h H zya [] (by show St H (Γ++[]); rw[List.append_nil]; exact hO) OwnB.nil
theorem zTN(hO:St H Γ)(hs:S64 ss)(h:RdS Γ v ss)(hp:0 < ss.length){K:Value→Prop}(hk:∀ v',RdB Γ v' ss[0]→K v'):opP (zWa 64 v (.int .i64 0)) fun t=>opP (zmc 64 1 t none none none H) K:=by
 obtain⟨p,o,c,j,b,rfl,h1,h2,h3⟩:=RdS.at hs h hp
 refine zaa (zHa (by omega) (by omega)) ?_
 have e:o+(0:Int).toNat * 64=o+0 * 64:=rfl
 rw[e]
 refine zaa (zbi (n:=64) hO j h1 (by omega) h3) ?_
 have hl:=hs _ (List.getElem_mem hp)
 exact hk _ (.inr ⟨p,o+0 * 64,3,by rw[hl],.inr rfl,.inr ⟨j,b,h1,by rw[hl]; exact h2⟩⟩)
set_option maxHeartbeats 4000000 in
theorem zYI(hO:St H Γ)(hs:S64 ss)(hb:∀ s ∈ ss,By s)(h1:RdS Γ v ss)(hl:ss.length≤1000000)(hk:MadeF Γ K (zPd ss)):wCall P zCm [v] H K:=by
 apply zuz; unfold ztz
 refine zDa h1.lenSl ?_
 refine zaa zfb ?_
 refine zja (fun h=>?_) (fun h=>?_)
 ·have:ss=[]:=List.length_eq_zero_iff.1 (by omega)
  subst this
  exact MadeF.none hk hO
 match ss,h with
 | [],h=>exact absurd rfl h
 | s::r,h=>
 have hsl:s.length=64:=hs s List.mem_cons_self
 have hsb:By s:=hb s List.mem_cons_self
 have kl:=zLx hsb
 have nl:=zMG hsb
 have ql:=zTB hsb
 refine zTN hO hs h1 (by simp) ?_
 intro vb hvb
 have hvb:RdB Γ vb s:=hvb
 refine zLr hO hvb ?_
 intro H pr hO
 obtain⟨a1,a2,a3⟩:=zDf (xs:=s) (n:=2) (by omega)
 refine zGt (n:=2) hO (zqa (k:=0) rfl) hvb.app (by omega) (by omega) ?_
 rw[a1,a2]
 clear hO
 intro H v2 vm cm hO i2 hm
 unfold rdN at hO
 rw[a3,Go.Ab.set_r] at hO
 replace hO:St H ((Γ++zGa vm cm)++[(pr,rdr v2 0)]):=St.rot hO
 have hm':=hm.rd.app' (Γ:=Γ)
 generalize hG:Γ++zGa vm cm=G at hO hm'
 have hGs:∀ {H:Heap} {Δ:List (Nat × Blk)},St H (G++Δ)→St H (Γ++Δ):=fun h=>by rw[← hG] at h; exact St.mid h
 have h1:RdS G v (s::r):=by rw[← hG]; exact h1.app
 have r2:RdB G v2 (s.drop 2):=i2 _ (by rw[← hG]; exact hvb.app)
 clear hvb i2 hG
 have l2:(s.drop 2).length=62:=by rw[List.length_drop]; omega
 obtain⟨b1,b2,b3⟩:=zDf (xs:=s.drop 2) (n:=1) (by omega)
 refine zuc (k:=1) (by omega) hO (zqa (k:=0) rfl) r2.app (fun x hx=>hsb x (List.mem_of_mem_drop hx)) ?_
 rw[b1,b2,b3]
 clear hO
 intro H v3 hO i3
 replace hO:St H (G++[(pr,rdr v3 0)]):=hO.set_r
 have r3:=i3 _ r2
 rw[List.drop_drop] at r3
 refine zDa (cvU rfl) ?_
 rw[show leV ((s.drop 2).take 1) % szU .u8=zah s from Nat.mod_eq_of_lt kl]
 have l3:(s.drop (2+1)).length=61:=by rw[List.length_drop]; omega
 obtain⟨c1,c2,c3⟩:=zDf (xs:=s.drop (2+1)) (n:=8) (by omega)
 refine zuc (k:=8) (by omega) hO (zqa (k:=0) rfl) r3.app (fun x hx=>hsb x (List.mem_of_mem_drop hx)) ?_
 rw[c1,c2,c3]
 clear hO
 intro H v4 hO i4
 replace hO:St H (G++[(pr,rdr v4 0)]):=hO.set_r
 have r4:=i4 _ r3
 rw[List.drop_drop] at r4
 have l4:(s.drop (2+1+8)).length=53:=by rw[List.length_drop]; omega
 obtain⟨d1,d2,d3⟩:=zDf (xs:=s.drop (2+1+8)) (n:=2) (by omega)
 refine zuc (k:=2) (by omega) hO (zqa (k:=0) rfl) r4.app (fun x hx=>hsb x (List.mem_of_mem_drop hx)) ?_
 rw[d1,d2,d3]
 clear hO
 intro H v5 hO i5
 replace hO:St H (G++[(pr,rdr v5 0)]):=hO.set_r
 replace hO:=hO.left
 have en:leV ((s.drop (2+1+8)).take 2)=zue s:=rfl
 have eq:leV ((s.drop (2+1)).take 8)=zMr s:=rfl
 rw[en,eq]
 refine zDa (zeg (k:=.u64) (by omega) (by omega)) ?_
 refine zXz ?_
 refine zwa (fun l' H'=>l'=[v,zib .u8 (zah s),zib .u64 (zMr s),int (zue s),int (zRb (zue s)),.bool (decide (zCD (s::r) s))]∧H'=H) ?_ ?_
 ·refine zDa (hm'.str hO) ?_
  rw[zSN]
  refine zaa (zLG _ _ (fun x hx=>hsb x (List.mem_of_mem_take hx)) (fun x hx=>by simp at hx; omega)) ?_
  refine zja (fun h=>?_) (fun h=>?_)
  ·rw[decide_eq_true h]
   repeat (first|refine oi ?_|refine ow ?_|refine wy ?_|refine wn ?_|refine wt ?_|refine wf' ?_|refine cy ?_|refine cn ?_)
   exact⟨by rw[decide_eq_true (show zCD (s::r) s from .inl h)],rfl⟩
  rw[decide_eq_false h]
  refine zaa zfb ?_
  refine zaa zRa ?_
  refine zja (fun h2=>?_) (fun h2=>?_)
  ·rw[decide_eq_true h2]
   repeat (first|refine oi ?_|refine ow ?_|refine wy ?_|refine wn ?_|refine wt ?_|refine wf' ?_|refine cy ?_|refine cn ?_)
   exact⟨by rw[decide_eq_true (show zCD (s::r) s from .inr (.inl (by omega)))],rfl⟩
  rw[decide_eq_false h2]
  refine zDa h1.lenSl ?_
  refine zaa zkc ?_
  refine zaa zRa ?_
  refine⟨?_,rfl⟩
  rw[decide_eq_decide.2 (show (((s::r).length:Nat):Int) < ((zRb (zue s):Nat):Int)↔zCD (s::r) s from⟨fun h3=>.inr (.inr (by omega)),fun h3=>?_⟩)]
  rcases h3 with h3|h3|h3
  ·exact absurd h3 h
  ·exact absurd (by omega) h2
  ·omega
 rintro l' H' ⟨rfl,rfl⟩
 try simp only[zla,zma]
 unfold zPd at hk
 refine zja (fun h2=>?_) (fun h2=>?_)
 ·simp only[if_pos h2] at hk
  have h5:St H' (Γ++[]):=hGs (by rw[List.append_nil]; exact hO)
  rw[List.append_nil] at h5
  exact MadeF.none hk h5
 simp only[if_neg h2] at hk
 have hmany:0 < zRb (zue s)∧zRb (zue s)≤(s::r).length∧s.take 2=[66,74]:=by
  unfold zCD at h2
  refine⟨by omega,by omega,?_⟩
  exact Decidable.not_not.1 fun h'=>h2 (.inl h')
 have hn4:zue s≤4000∧zRb (zue s)=(zue s+79) / 63:=by
  have h0:=hmany.1
  unfold zRb at h0 ⊢
  split at h0
  ·omega
  ·rename_i h6
   rw[if_neg h6]
   exact⟨by omega,by rw[Int.toNat_natCast]⟩
 obtain⟨vs,e1,i6⟩:=zWz hs h1 hmany.2.1
 have hs6:S64 ((s::r).take (zRb (zue s))):=fun x hx=>hs x (List.mem_of_mem_take hx)
 have hl6:((s::r).take (zRb (zue s))).length=zRb (zue s):=by rw[List.length_take]; omega
 refine zaa e1 ?_
 refine zxE hO hs6 (i6 _ h1) (by omega) ?_
 clear hO
 intro H vp cp hO hp
 have hp':=hp.rd.app' (Γ:=G)
 have h1:=h1.app (Δ:=zGa vp cp)
 generalize hG2:G++zGa vp cp=G2 at hO hp' h1
 have hGs2:∀ {H:Heap} {Δ:List (Nat × Blk)},St H (G2++Δ)→St H (Γ++Δ):=fun h=>by rw[← hG2] at h; exact hGs (St.mid h)
 have hpl:=ztp hs6
 rw[hl6] at hpl
 have hbp:By (zZg ((s::r).take (zRb (zue s)))):=by
  intro x hx
  obtain⟨y,hy,hx⟩:=List.mem_flatMap.1 hx
  exact hb y (List.mem_of_mem_take hy) x (List.mem_of_mem_take hx)
 refine zaa (v:=int ((13+zue s:Nat):Int)) (by rw[zxb (by omega) (by omega)]; congr 2) ?_
 obtain⟨vy,e2,i7⟩:=zgl (i:=13) (n:=zue s) hp' (by rw[hpl]; omega) (mx:=none) (.inl rfl)
 refine zaa e2 ?_
 have r7:RdB G2 vy (zAk (s::r) s):=i7 _ hp'
 have hby:By (zAk (s::r) s):=fun x hx=>hbp x (List.mem_of_mem_drop (List.mem_of_mem_take hx))
 refine zJx hO r7 hby kl ql ?_
 clear hO
 intro H vq hO hq
 have hq':=(RdS.own hq).app' (Γ:=G2)
 obtain⟨vs2,e3,i8⟩:=zWz hs (h1.app (Δ:=zGa vq (zgf (zih (zah s) (zMr s) (zAk (s::r) s))))) hmany.2.1
 refine zaa e3 ?_
 have hln:(zAk (s::r) s).length≤4000:=by
  show ((List.drop _ _).take _).length≤_
  rw[List.length_take]; omega
 refine zwE hO zjj hs6 hq' (i8 _ h1.app) (by
  unfold zih
  split
  ·simp
  ·rw[zte,zYg]; unfold nCh; omega) ?_
 refine zaa zyc ?_
 by_cases h9:zih (zah s) (zMr s) (zAk (s::r) s)=(s::r).take (zRb (zue s))
 ·rw[decide_eq_true h9]
  rw[if_neg (show ¬ (zih (zah s) (zMr s) (zAk (s::r) s)≠(s::r).take (zRb (zue s))) from fun h0=>h0 h9)] at hk
  refine zFe rfl ?_
  refine znp hO r7.app (by omega) ?_
  clear hO
  intro H vz cz hO hz
  exact hk H vz cz (hGs2 (St.mid hO)) hz
 ·rw[decide_eq_false h9]
  simp only[if_pos h9] at hk
  refine zdg rfl ?_
  have h5:=hGs2 hO
  exact MadeF.none hk h5.left
end J
set_option maxRecDepth 100000
namespace J
open Go Go.Ab
variable{H:Heap}{Γ Γ2:List (Nat × Blk)}{K:VH}{v w x:Value}{xs ys bs:List Int}{j p:Nat}{e:Int}{ss tt:List (List Int)}
variable{L:Mloc}{m:Mp}{part pos:Int}{s:List Int}
def Mp.secs(m:Mp)(part:Int):List (List Int):=(List.range (m.size part)).map fun (y:Nat)=>(m.read part y).1
theorem zkj:(m.secs part).length=m.size part:=by simp[Mp.secs]
theorem zNG(ok:m.Ok):S64 (m.secs part):=by
 intro s hs
 obtain⟨y,_,rfl⟩:=List.mem_map.1 hs
 exact Mp.read_len ok
theorem zOG{y:Nat}(h:y < m.size part):(m.secs part).take (y+1)=(m.secs part).take y++[(m.read part y).1]:=by
 rw[List.take_succ_eq_append_getElem (by rw[zkj]; exact h)]
 congr 2
 simp[Mp.secs]
theorem size_le(ok:m.Ok):m.size part≤4096:=by
 unfold Mp.size
 split
 ·rename_i h
  have:=ok.s _ (Mp.span_mem h)
  have:=ok.d.n
  omega
 ·omega
theorem zYz(ok:m.Ok)(hO:St H (Γ++MW L m))(hk:∀ H' v',St H' ((Γ++zGa v' (zgf (m.secs part)))++MW L m)→Own 64 v' (m.secs part).length (zgf (m.secs part))→K v' H'):wCall P zDd [ptr L.pm 0,int part] H K:=by
 apply zLn; unfold zpk
 refine zxi hO ?_
 have hsz:=size_le ok (part:=part)
 refine zJj (fun k l' H'=>∃ (y:Nat) (v':Value),y≤m.size part∧k=m.size part - y∧l'=[ptr L.pm 0,int part,zya,v',int (m.size part),int y]∧St H' ((Γ++zGa v' (zgf ((m.secs part).take y)))++MW L m)∧Own 64 v' y (zgf ((m.secs part).take y))) _ _ ?_ (m.size part) _ _ ⟨0,zya,by omega,rfl,rfl,by show St H ((Γ++[])++_); rw[List.append_nil]; exact hO,.inl ⟨rfl,rfl,rfl⟩⟩
 clear hO
 rintro k l' H ⟨y,v',hy,rfl,rfl,hO,hv⟩
 unfold zxh
 try simp only[zla,zma]
 refine zaa zMa ?_
 refine zja (fun h=>?_) (fun h=>?_)
 ·have hyl:y < m.size part:=by omega
  refine zfw ok hO ?_
  clear hO
  intro H hO
  have hl:=Mp.read_len ok (part:=part) (pos:=(y:Int))
  refine zaa zRh ?_
  refine zaa zSh ?_
  rw[zcS]
  refine zxa hO ?_
  clear hO
  intro p7 H hO
  refine zoa hO (((Γ++zGa v' (zgf ((m.secs part).take y)))++MW L m).length+0) (zqa rfl) (by rw[zta]; rfl) (by rw[zta]; exact hl) (ztb _) ?_
  clear hO
  intro H hO
  replace hO:=hO.set_r
  refine zia hO (((Γ++zGa v' (zgf ((m.secs part).take y)))++MW L m).length+0) (zqa rfl) (by rw[zta]; exact hl) (by omega) ?_
  replace hO:=hO.left.rot
  refine zEa hO (zZK hl _) ?_
  clear hO
  intro q H hO
  refine zSc hO hv (by rw[zta]; exact hl) (by omega) (ztb _) (by omega) (by omega) ?_
  clear hO
  intro v2 H hO hv2
  have e4:zgf ((m.secs part).take y)++by8 (m.read part y).1=zgf ((m.secs part).take (y+1)):=by
   rw[zOG hyl]; simp[zgf]
  rw[e4] at hO hv2
  repeat (first|refine oi ?_|refine ow ?_|refine wy ?_|refine wn ?_|refine wt ?_|refine wf' ?_|refine cy ?_|refine cn ?_)
  exact⟨_,by omega,y+1,v2,by omega,rfl,rfl,hO.rot,hv2⟩
 ·have ey:y=m.size part:=by omega
  subst ey
  have e5:(m.secs part).take (m.size part)=m.secs part:=List.take_of_length_le (by rw[zkj]; exact Nat.le_refl _)
  rw[e5] at hO hv
  refine zgb rfl ?_
  exact hk _ _ hO (by rw[zkj]; exact hv)
structure Row where
 bodies:List (List Int)
 first:Nat
 last:Nat
def zOt:Row:=⟨[],0,0⟩
def znd(want:Nat)(f:Fr)(out:Row):Prop:=f.many=0∨f.kind≠want∨(want=2∧(f.seq=0∨f.seq - 1≠out.last))
instance (want:Nat) (f:Fr) (out:Row):Decidable (znd want f out):=by unfold znd; infer_instance
def zcf(want:Nat)(f:Fr)(out:Row):Row:=⟨out.bodies++[f.body],if want=1 then f.seq else out.first,f.seq⟩
noncomputable def zTc:Nat→Nat→List (List Int)→Row→Row
 | 0,_,_,out=>out
 | n+1,want,ss,out=>if znd want (zPd ss) out then out else zTc n 2 (ss.drop (zPd ss).many) (zcf want (zPd ss) out)
noncomputable def zVa(ss:List (List Int)):Row:=zTc (ss.length+1) 1 ss zOt
def RdBs(Γ:List (Nat × Blk))(vs:List Value)(bs:List (List Int)):Prop:=vs.length=bs.length∧∀ i (h:i < vs.length) (h':i < bs.length),RdB Γ vs[i] bs[i]
theorem RdBs.app{vs:List Value}{bs:List (List Int)}{Δ:List (Nat × Blk)}(h:RdBs Γ vs bs):RdBs (Γ++Δ) vs bs:=⟨h.1,fun i h1 h2=>(h.2 i h1 h2).app⟩
theorem RdBs.app'{vs:List Value}{bs:List (List Int)}{Δ:List (Nat × Blk)}(h:RdBs Δ vs bs):RdBs (Γ++Δ) vs bs:=⟨h.1,fun i h1 h2=>(h.2 i h1 h2).app'⟩
theorem RdBs.snoc{vs:List Value}{bs:List (List Int)}{v:Value}{b:List Int}(h:RdBs Γ vs bs)(hv:RdB Γ v b):RdBs Γ (vs++[v]) (bs++[b]):=by
 refine⟨by simp[h.1],fun i h1 h2=>?_⟩
 by_cases hi:i < vs.length
 ·rw[List.getElem_append_left hi,List.getElem_append_left (by have:=h.1; omega)]
  exact h.2 i hi _
 ·have e:i=vs.length:=by simp at h1; omega
  subst e
  rw[List.getElem_append_right (Nat.le_refl _),List.getElem_append_right (by rw[h.1]; exact Nat.le_refl _)]
  simp only[Nat.sub_self,h.1,List.getElem_cons_zero]
  exact hv
theorem RdBs.mono{vs:List Value}{bs:List (List Int)}(h:RdBs Γ vs bs)(hm:∀ v b,RdB Γ v b→RdB Γ2 v b):RdBs Γ2 vs bs:=⟨h.1,fun i h1 h2=>hm _ _ (h.2 i h1 h2)⟩
def zlj(vb:Value)(r:Row):List Value:=[vb,zib .u64 r.first,zib .u64 r.last]
theorem zzM:zc P 139=zlj zya zOt:=by kernel_rfl
theorem zBk(h:(zPd ss).many≠0):(zPd ss).many≤ss.length:=by
 revert h
 unfold zPd
 match ss with
 | []=>intro h; exact absurd rfl h
 | s::r=>
  simp only
  split
  ·intro h; exact absurd rfl h
  ·rename_i h2
   split
   ·intro h; exact absurd rfl h
   ·intro _
    show zRb (zue s)≤_
    unfold zCD at h2
    omega
theorem zMx(hb:∀ s ∈ ss,By s):(zPd ss).seq < 2 ^ 64∧(zPd ss).kind < 256:=by
 unfold zPd
 match ss with
 | []=>decide
 | s::r=>
  simp only
  have hsb:=hb s List.mem_cons_self
  split
  ·decide
  ·split
   ·decide
   ·exact⟨zTB hsb,zLx hsb⟩
theorem ziw{t:TypeId}{c:Bool}{a b:Nat}(h:b≤a)(ha:a < 2 ^ 64):(zsa P .sub t c).f (zib .u64 a) (zib .u64 b)=some (zib .u64 (a - b)):=by
 rw[show (zib .u64 a)=Value.int .u64 (a:Int) from rfl,show (zib .u64 b)=Value.int .u64 (b:Int) from rfl,zbG]
 have e:(a:Int) - (b:Int)=((a - b:Nat):Int):=by omega
 rw[e,zai rfl,Nat.mod_eq_of_lt (show a - b < szU .u64 by show a - b < 2 ^ 64; omega)]
theorem zAM(v:Value)(hv:∃ a n c,v=.slice a n c)(H:Heap):(zpa P 104 1).f [(0,v)] H=some (sl H.next 0 1 3,H.push [v]):=by
 obtain⟨a,n,c,rfl⟩:=hv
 exact zNz _ _ _ _
end J
set_option maxRecDepth 100000
namespace J
open Go Go.Ab
variable{H:Heap}{Γ Γ2:List (Nat × Blk)}{K:VH}{v w x:Value}{xs ys bs:List Int}{j p:Nat}{e:Int}{ss tt:List (List Int)}
variable{L:Mloc}{m:Mp}{part pos:Int}{s:List Int}
theorem St.rev3{A B C:List (Nat × Blk)}(h:St H (((Γ++A)++B)++C)):St H (((Γ++C)++B)++A):=h.perm (by
 simp only[List.append_assoc]
 refine List.Perm.append_left Γ ?_
 refine List.perm_append_comm.trans ?_
 rw[List.append_assoc,← List.append_assoc,← List.append_assoc]
 exact List.Perm.append_right A List.perm_append_comm)
set_option maxHeartbeats 4000000 in
theorem zUB{B:List (Nat × Blk)}{p4 p5:Nat}{vs:Value}{Qx:LX}{Qr:LN}(hs:S64 ss)(hb:∀ s ∈ ss,By s)(hl:ss.length≤100000)(hvs:RdS B vs ss)
  (hO:St H (B++[(p4,⟨zlj zya zOt,true⟩),(p5,⟨zlj zya zOt,true⟩)]))
  (hk:∀ H' Δ vb vals,St H' (((B++[(p4,⟨zlj vb (zVa ss),true⟩),(p5,⟨zlj vb (zVa ss),true⟩)])++Δ)++zGa vb vals)→Own 1 vb (zVa ss).bodies.length vals→RdBs Δ vals (zVa ss).bodies→Qr [ptr p4 0] H') :
  zdb P true 60 zAf 16 [ptr p4 0,ptr p5 0,vs,.int .u8 1] H Qx Qr:=by
 refine zlk (fun k l' H'=>∃ (v':Value) (tt:List (List Int)) (want:Nat) (out:Row) (Δ:List (Nat × Blk)) (vb:Value) (vals:List Value),l'=[ptr p4 0,ptr p5 0,v',zib .u8 want]∧(want=1∨want=2)∧tt.length≤k∧S64 tt∧(∀ s ∈ tt,By s)∧RdS B v' tt∧tt.length≤100000∧out.bodies.length+tt.length≤100000∧out.first < 2 ^ 64∧out.last < 2 ^ 64
   ∧ St H' (((B++[(p4,⟨zlj zya zOt,true⟩),(p5,⟨zlj vb out,true⟩)])++Δ)++zGa vb vals)∧Own 1 vb out.bodies.length vals∧RdBs Δ vals out.bodies∧zVa ss=zTc (k+1) want tt out) _ _ ?_ ss.length _ _
  ⟨vs,ss,1,zOt,[],zya,[],rfl,.inl rfl,Nat.le_refl _,hs,hb,hvs,hl,by show 0+ss.length≤_; omega,by decide,by decide,by
   show St H (((B++[(p4,⟨zlj zya zOt,true⟩),(p5,⟨zlj zya zOt,true⟩)])++[])++[])
   rw[List.append_nil,List.append_nil]; exact hO,.inl ⟨rfl,rfl,rfl⟩,⟨rfl,fun i h=>absurd h (by simp)⟩,rfl⟩
 clear hO hvs hs hb hl
 rintro k l' H ⟨v',tt,want,out,Δ,vb,vals,rfl,hw,hk2,hs,hb,hvs,hl,hlb,hf,hla,hO,hv,hrd,hgo⟩
 unfold zgi
 try simp only[zla,zma]
 refine zYI hO hs hb hvs.app.app.app (by omega) ?_
 clear hO
 intro H v2 c2 hO h2
 obtain⟨hsq,hkd⟩:=zMx hb
 have hmn:(zPd tt).many≠0→(zPd tt).many≤tt.length:=zBk
 unfold zTc at hgo
 generalize zPd tt=f at *
 refine zaa (v:=zib .u8 f.kind) rfl ?_
 refine zaa (v:=zib .u64 f.seq) rfl ?_
 refine zaa (v:=v2) rfl ?_
 refine zaa (v:=int f.many) rfl ?_
 have i5:∀ Δ2,(((B++[(p4,(⟨zlj zya zOt,true⟩:Blk)),(p5,⟨zlj vb out,true⟩)])++Δ)++Δ2)[B.length+1]?=some (p5,⟨zlj vb out,true⟩):=fun Δ2=>zza (zza (zqa rfl))
 refine zwa (fun l' H'=>l'=[ptr p4 0,ptr p5 0,v',zib .u8 want,zib .u64 f.seq,v2,int f.many,.bool (decide (znd want f out))]∧H'=H) ?_ ?_
 ·refine zaa zfb ?_
  refine zja (fun h=>?_) (fun h=>?_)
  ·rw[decide_eq_true h]
   repeat (first|refine oi ?_|refine ow ?_|refine wy ?_|refine wn ?_|refine wt ?_|refine wf' ?_|refine cy ?_|refine cn ?_)
   exact⟨by rw[decide_eq_true (show znd want f out from .inl (by omega))],rfl⟩
  rw[decide_eq_false h]
  refine zaa (zKa (k:=.u8)) ?_
  refine zaa zRa ?_
  refine zja (fun h2=>?_) (fun h2=>?_)
  ·rw[decide_eq_true h2]
   repeat (first|refine oi ?_|refine ow ?_|refine wy ?_|refine wn ?_|refine wt ?_|refine wf' ?_|refine cy ?_|refine cn ?_)
   exact⟨by rw[decide_eq_true (show znd want f out from .inr (.inl (by omega)))],rfl⟩
  rw[decide_eq_false h2]
  refine zaa (zfb (k:=.u8)) ?_
  refine zja (fun h3=>?_) (fun h3=>?_)
  ·rw[decide_eq_true h3]
   refine zaa (zfb (k:=.u64)) ?_
   refine zja (fun h4=>?_) (fun h4=>?_)
   ·rw[decide_eq_true h4]
    repeat (first|refine oi ?_|refine ow ?_|refine wy ?_|refine wn ?_|refine wt ?_|refine wf' ?_|refine cy ?_|refine cn ?_)
    exact⟨by rw[decide_eq_true (show znd want f out from .inr (.inr ⟨by omega,.inl (by omega)⟩))],rfl⟩
   ·rw[decide_eq_false h4]
    refine zaa (ziw (b:=1) (by omega) hsq) ?_
    refine zaa zga ?_
    refine zha hO (B.length+1) (zza (i5 _)) rfl ?_
    refine zaa (zKa (k:=.u64)) ?_
    refine zaa zRa ?_
    refine zaa znc ?_
    refine zaa zRa ?_
    refine⟨?_,rfl⟩
    rw[decide_eq_decide.2 (show (((f.seq - 1:Nat):Int)≠(out.last:Int))↔znd want f out from⟨fun h5=>.inr (.inr ⟨by omega,.inr (by omega)⟩),fun h5=>?_⟩)]
    rcases h5 with h5|h5|⟨_,h5|h5⟩
    ·omega
    ·omega
    ·omega
    ·omega
  ·rw[decide_eq_false h3]
   repeat (first|refine oi ?_|refine ow ?_|refine wy ?_|refine wn ?_|refine wt ?_|refine wf' ?_|refine cy ?_|refine cn ?_)
   refine⟨?_,rfl⟩
   rw[decide_eq_false (show ¬ znd want f out from fun h5=>?_)]
   rcases h5 with h5|h5|⟨h5,_⟩
   ·omega
   ·omega
   ·omega
 rintro l' H' ⟨rfl,rfl⟩
 try simp only[zla,zma]
 refine zja (fun hst=>?_) (fun hst=>?_)
 ·rw[if_pos hst] at hgo
  refine zia hO (B.length+1) (zza (i5 _)) rfl (by omega) ?_
  replace hO:=hO.left
  refine zoa hO (B.length+0) (zza (zza (zqa rfl))) rfl rfl (by
   rcases hv with⟨rfl,_,_⟩|⟨p,rfl|rfl,_⟩ <;> rfl) ?_
  clear hO
  intro H hO
  rw[List.set_append_left _ _ (by simp),List.set_append_left _ _ (by simp),Go.Ab.set_r] at hO
  try simp only[zla,zma]
  refine hk H Δ vb vals ?_ (by rw[hgo]; exact hv) (by rw[hgo]; exact hrd)
  rw[hgo]
  exact hO
 ·rw[if_neg hst] at hgo
  have hm0:f.many≠0:=fun h=>hst (.inl h)
  have hml:=hmn hm0
  have hkw:f.kind=want:=Decidable.byContradiction fun h=>hst (.inr (.inl h))
  obtain⟨k',rfl⟩:∃ k',k=k'+1:=⟨k - 1,by omega⟩
  obtain⟨a1,n1,c1,e1⟩:∃ a1 n1 c1,vb=.slice a1 n1 c1:=by rcases hv with⟨rfl,_,_⟩|⟨p,rfl|rfl,_⟩ <;> exact⟨_,_,_,rfl⟩
  refine zwa (fun l' H'=>l'=[ptr p4 0,ptr p5 0,v',zib .u64 f.seq,v2,int f.many]∧St H' ((((B++[(p4,⟨zlj zya zOt,true⟩),(p5,⟨zlj vb ⟨out.bodies,if want=1 then f.seq else out.first,out.last⟩,true⟩)])++Δ)++zGa vb vals)++zGa v2 c2)) ?_ ?_
  ·refine zaa (zfb (k:=.u8)) ?_
   refine zja (fun h=>?_) (fun h=>?_)
   ·refine zaa zga ?_
    refine zua hO (B.length+1) (zza (i5 _)) rfl (show 1 < 3 by omega) (show _=zlj vb ⟨out.bodies,f.seq,out.last⟩ from rfl) ?_
    clear hO
    intro H hO
    rw[List.set_append_left _ _ (by simp),List.set_append_left _ _ (by simp),List.set_append_left _ _ (by simp),Go.Ab.set_r] at hO
    rw[if_pos (by omega)]
    exact⟨rfl,hO⟩
   ·rw[if_neg (by omega)]
    exact⟨rfl,hO⟩
  clear hO i5
  rintro l' H ⟨rfl,hO⟩
  try simp only[zla,zma]
  have i5:∀ (r:Row) (vb:Value) (Δ Δ2:List (Nat × Blk)),(((B++[(p4,(⟨zlj zya zOt,true⟩:Blk)),(p5,⟨zlj vb r,true⟩)])++Δ)++Δ2)[B.length+1]?=some (p5,⟨zlj vb r,true⟩):=fun r vb Δ Δ2=>zza (zza (zqa rfl))
  refine zaa zga ?_
  refine zua hO (B.length+1) (zza (i5 _ _ _ _)) rfl (show 2 < 3 by omega) (show _=zlj vb ⟨out.bodies,if want=1 then f.seq else out.first,f.seq⟩ from rfl) ?_
  clear hO
  intro H hO
  rw[List.set_append_left _ _ (by simp),List.set_append_left _ _ (by simp),List.set_append_left _ _ (by simp),Go.Ab.set_r] at hO
  replace hO:St H ((((B++[(p4,⟨zlj zya zOt,true⟩),(p5,⟨zlj vb ⟨out.bodies,if want=1 then f.seq else out.first,f.seq⟩,true⟩)])++Δ)++zGa vb vals)++zGa v2 c2):=hO
  refine zaa zga ?_
  refine zha hO (B.length+1) (zza (i5 _ _ _ _)) rfl ?_
  replace hO:=hO.rot
  rw[List.append_assoc _ Δ] at hO
  refine zEa hO (zAM v2 (RdB.shape h2.rd) _) ?_
  clear hO
  intro q H hO
  have h2o:([v2]:List Value).all oneCell=true:=by obtain⟨a,n,c,rfl⟩:=RdB.shape h2.rd; rfl
  refine zSc hO hv rfl (by omega) h2o (by omega) (by omega) ?_
  clear hO
  intro vb' H hO hv'
  obtain⟨a2,n2,c3,e2⟩:∃ a1 n1 c1,vb'=.slice a1 n1 c1:=by rcases hv' with⟨rfl,_,_⟩|⟨p,rfl|rfl,_⟩ <;> exact⟨_,_,_,rfl⟩
  refine zaa zga ?_
  refine zua hO (B.length+1) (i5 _ _ _ _) (by rw[e2]; rfl) (show 0 < 3 by omega) (show _=zlj vb' (zcf want f out) from rfl) ?_
  clear hO
  intro H hO
  rw[List.set_append_left _ _ (by simp),List.set_append_left _ _ (by simp),Go.Ab.set_r] at hO
  replace hO:St H (((B++[(p4,⟨zlj zya zOt,true⟩),(p5,⟨zlj vb' (zcf want f out),true⟩)])++(Δ++zGa v2 c2))++zGa vb' (vals++[v2])):=hO
  obtain⟨v3,e3,r3⟩:=zHG hs hvs hml
  refine zaa e3 ?_
  have hnl:(zcf want f out).bodies.length=out.bodies.length+1:=by show (out.bodies++[f.body]).length=_; simp
  refine⟨k',by omega,v3,tt.drop f.many,2,zcf want f out,Δ++zGa v2 c2,vb',vals++[v2],rfl,.inr rfl,by rw[List.length_drop]; omega,fun s hx=>hs s (List.mem_of_mem_drop hx),fun s hx=>hb s (List.mem_of_mem_drop hx),r3 _ hvs,by rw[List.length_drop]; omega,by rw[hnl,List.length_drop]; omega,?_,hsq,hO,by rw[hnl]; exact hv',hrd.app.snoc h2.rd.app',hgo⟩
  show (if want=1 then f.seq else out.first) < 2 ^ 64
  split
  ·exact hsq
  ·exact hf
theorem zPt(ok:m.Ok)(hb:∀ s ∈ m.secs part,By s)(hO:St H (Γ++MW L m))
  (hk:∀ H' Δ vb vals,St H' (((Γ++Δ)++zGa vb vals)++MW L m)→Own 1 vb (zVa (m.secs part)).bodies.length vals→RdBs Δ vals (zVa (m.secs part)).bodies→K (agg (zlj vb (zVa (m.secs part)))) H') :
  wCall P zVc [ptr L.pm 0,int part] H K:=by
 apply zbp; unfold zQl
 rw[zzM]
 refine zxa hO ?_
 clear hO
 intro p4 H hO
 refine zxa hO ?_
 clear hO
 intro p5 H hO
 rw[List.append_assoc _ [_]] at hO
 replace hO:=hO.rot
 refine zYz ok hO ?_
 clear hO
 intro H vs hO hvs
 have hO2:St H (((Γ++MW L m)++zGa vs (zgf (m.secs part)))++[(p4,⟨zlj zya zOt,true⟩),(p5,⟨zlj zya zOt,true⟩)]):=St.rev3 hO
 refine zUB (zNG ok) hb (by rw[zkj]; have:=size_le ok (part:=part); omega) (RdS.own hvs).app' hO2 ?_
 clear hO hO2
 intro H Δ vb vals hO hv hrd
 refine zia hO (((Γ++MW L m)++zGa vs (zgf (m.secs part))).length+0) (zza (zza (zqa rfl))) rfl (by omega) ?_
 refine hk H Δ vb vals ?_ hv hrd
 have h3:St H ((Γ++MW L m)++(Δ++zGa vb vals)):=by
  rw[List.append_assoc (_++[_,_])] at hO
  refine hO.sub (List.Sublist.append ?_ (List.Sublist.refl _))
  rw[List.append_assoc (Γ++MW L m)]
  exact List.sublist_append_left _ _
 have h4:=h3.rot
 rw[← List.append_assoc Γ Δ] at h4
 exact h4
end J
set_option maxRecDepth 100000
namespace J
open Go Go.Ab
variable{H:Heap}{Γ Γ2:List (Nat × Blk)}{K:VH}{v w x:Value}{xs ys bs:List Int}{j p:Nat}{e:Int}{ss tt:List (List Int)}
variable{L:Mloc}{m:Mp}{part pos:Int}{s:List Int}
structure Jn where
 a:Int
 b:Int
 now:Int
 last:Nat
 pos:Int
 ready:Bool
def jv(pm:Nat)(t:Jn):List Value:=[ptr pm 0,int t.a,int t.b,int t.now,zib .u64 t.last,int t.pos,.bool t.ready]
abbrev JB(pj pm:Nat)(t:Jn):List (Nat × Blk):=[(pj,⟨jv pm t,true⟩)]
structure Jn.Ok (t:Jn):Prop where
 n:t.now=0∨t.now=1
 l:t.ready=true→t.last≤4611686018427387904
 p:0≤t.pos∧t.pos≤1000000
 u:t.last < 2 ^ 64
def Jn.bank(t:Jn)(i:Int):Int:=if i=0 then t.a else t.b
variable{pj:Nat}{t:Jn}
theorem zVB{i:Int}(h:i=0∨i=1):(jv L.pm t)[1+i.toNat * 1]?=some (int (t.bank i)):=by
 rcases h with rfl|rfl <;> rfl
def Jn.left(t:Jn)(m:Mp):Int:=if t.ready=false then 0 else m.size (t.bank t.now) - t.pos
theorem zyE(ok:m.Ok)(jok:t.Ok)(hO:St H ((Γ++JB pj L.pm t)++MW L m))(hk:K (int (t.left m)) H):wCall P zed [ptr pj 0] H K:=by
 apply zfj; unfold zng
 repeat (first|refine oi ?_|refine ow ?_|refine wy ?_|refine wn ?_|refine wt ?_|refine wf' ?_|refine cy ?_|refine cn ?_)
 refine zha hO (Γ.length+0) (zza (zqa rfl)) rfl ?_
 refine zaa zyc ?_
 unfold Jn.left at hk
 have hp:=jok.p
 have hsz:=size_le ok (part:=t.bank t.now)
 refine zLb (fun h=>?_) (fun h=>?_)
 ·rw[if_pos (by simpa using h)] at hk
  exact hk
 ·rw[if_neg (by simp at h; simp[h])] at hk
  repeat (first|refine oi ?_|refine ow ?_|refine wy ?_|refine wn ?_|refine wt ?_|refine wf' ?_|refine cy ?_|refine cn ?_)
  refine zha hO (Γ.length+0) (zza (zqa rfl)) rfl ?_
  repeat (first|refine oi ?_|refine ow ?_|refine wy ?_|refine wn ?_|refine wt ?_|refine wf' ?_|refine cy ?_|refine cn ?_)
  refine zha hO (Γ.length+0) (zza (zqa rfl)) rfl ?_
  repeat (first|refine oi ?_|refine ow ?_|refine wy ?_|refine wn ?_|refine wt ?_|refine wf' ?_|refine cy ?_|refine cn ?_)
  refine zaa (zjb (by have:=jok.n; omega) (by have:=jok.n; omega)) ?_
  refine zha hO (Γ.length+0) (zza (zqa rfl)) (by rw[Nat.zero_add]; exact zVB jok.n) ?_
  refine zxi hO ?_
  repeat (first|refine oi ?_|refine ow ?_|refine wy ?_|refine wn ?_|refine wt ?_|refine wf' ?_|refine cy ?_|refine cn ?_)
  refine zha hO (Γ.length+0) (zza (zqa rfl)) rfl ?_
  refine⟨zmb hO (Γ.length+0) (zza (zqa rfl)) hO (Γ.length+0) (zza (zqa rfl)) rfl,?_⟩
  refine zaa (zae (by omega) (by omega)) ?_
  exact hk
def Jn.fits(t:Jn)(m:Mp)(n:Int):Prop:=0 < zRb n∧zRb n≤m.size t.a∧zRb n≤m.size t.b
instance (t:Jn) (m:Mp) (n:Int):Decidable (t.fits m n):=by unfold Jn.fits; infer_instance
theorem zzE{n:Int}(hO:St H ((Γ++JB pj L.pm t)++MW L m))(hk:K (.bool (decide (t.fits m n))) H):wCall P zfd [ptr pj 0,int n] H K:=by
 apply zgj; unfold zog
 refine zXz ?_
 refine zaa zkc ?_
 refine zja (fun h=>?_) (fun h=>?_)
 ·rw[decide_eq_true h]
  repeat (first|refine oi ?_|refine ow ?_|refine wy ?_|refine wn ?_|refine wt ?_|refine wf' ?_|refine cy ?_|refine cn ?_)
  refine zha hO (Γ.length+0) (zza (zqa rfl)) rfl ?_
  repeat (first|refine oi ?_|refine ow ?_|refine wy ?_|refine wn ?_|refine wt ?_|refine wf' ?_|refine cy ?_|refine cn ?_)
  refine zha hO (Γ.length+0) (zza (zqa rfl)) (v:=int t.a) rfl ?_
  refine zxi hO ?_
  repeat (first|refine oi ?_|refine ow ?_|refine wy ?_|refine wn ?_|refine wt ?_|refine wf' ?_|refine cy ?_|refine cn ?_)
  refine zha hO (Γ.length+0) (zza (zqa rfl)) rfl ?_
  refine⟨zmb hO (Γ.length+0) (zza (zqa rfl)) hO (Γ.length+0) (zza (zqa rfl)) rfl,?_⟩
  repeat (first|refine oi ?_|refine ow ?_|refine wy ?_|refine wn ?_|refine wt ?_|refine wf' ?_|refine cy ?_|refine cn ?_)
  refine zha hO (Γ.length+0) (zza (zqa rfl)) (v:=int t.b) rfl ?_
  refine⟨zmb hO (Γ.length+0) (zza (zqa rfl)) hO (Γ.length+0) (zza (zqa rfl)) rfl,?_⟩
  refine zxi hO ?_
  refine zDa zfG ?_
  refine zaa zRw ?_
  refine zaa znc ?_
  rw[decide_eq_decide.2 (show (zRb n:Int)≤min (m.size t.a:Int) (m.size t.b:Int)↔t.fits m n from⟨fun h2=>⟨by omega,by omega,by omega⟩,fun h2=>by have:=h2.2.1; have:=h2.2.2; omega⟩)]
  exact hk
 ·rw[decide_eq_false h]
  rw[decide_eq_false (show ¬ t.fits m n from fun h2=>by have:=h2.1; omega)] at hk
  refine zaa zRa ?_
  exact hk
def zDc(bank:Int):Int→List (List Int)→Mp→Mp × Int
 | _,[],m=>m.sync
 | a,s::r,m=>if (m.program bank a s).2≠0 then m.program bank a s else zDc bank (a+1) r (m.program bank a s).1
theorem zjw{bank a:Int}:zDc bank a [] m=m.sync:=rfl
theorem zie{bank a:Int}{s:List Int}{r:List (List Int)}:zDc bank a (s::r) m=if (m.program bank a s).2≠0 then m.program bank a s else zDc bank (a+1) r (m.program bank a s).1:=rfl
theorem zQt{bank a:Int}{N:Nat}(ok:m.Ok)(hsm:m.Sm N)(hN:N+ss.length≤1000000)(ha:0≤a∧a≤1000000)(hs:S64 ss)(hv:RdS Γ v ss)(hO:St H ((Γ++JB pj L.pm t)++MW L m))(how:Mown L m)
  (hk:∀ H' L',L.Eq L'→St H' ((Γ++JB pj L.pm t)++MW L' (zDc bank a ss m).1)→Mown L' (zDc bank a ss m).1→K (int (zDc bank a ss m).2) H'):wCall P zyb [ptr pj 0,int bank,int a,v] H K:=by
 apply zmi; unfold zUf
 refine zDa hv.lenSl ?_
 refine zCg (fun k l' H'=>∃ (y:Nat) (L2:Mloc) (m2:Mp),y≤ss.length∧k=ss.length - y∧l'=[ptr pj 0,int bank,int a,int 0,v,int ss.length,int y]∧L.Eq L2∧m2.Ok∧m2.Sm (N+y)∧St H' ((Γ++JB pj L.pm t)++MW L2 m2)∧Mown L2 m2∧zDc bank a ss m=zDc bank (a+y) (ss.drop y) m2) _ _ ?_ ss.length _ _ ⟨0,L,m,by omega,rfl,rfl,Mloc.Eq.rfl',ok,hsm,hO,how,by simp⟩
 clear hO how
 rintro k l' H ⟨y,L2,m2,hy,rfl,rfl,he,ok2,hs2,hO,hv2,hw⟩
 unfold zqe
 try simp only[zla,zma]
 refine zaa zMa ?_
 have em:=he.m
 refine zja (fun h1=>?_) (fun h1=>?_)
 ·have hyl:y < ss.length:=by omega
  have hsl:=hs _ (List.getElem_mem hyl)
  rw[List.drop_eq_getElem_cons hyl,zie] at hw
  refine zIG hO hs hv.app.app hyl ?_
  rw[zcS]
  refine zxa hO ?_
  clear hO
  intro p10 H hO
  refine zoa hO (((Γ++JB pj L.pm t)++MW L2 m2).length+0) (zqa rfl) (by rw[zta]; rfl) (by rw[zta]; exact hsl) (ztb _) ?_
  clear hO
  intro H hO
  replace hO:St H (((Γ++JB pj L.pm t)++MW L2 m2)++[(p10,⟨by8 ss[y],true⟩)]):=hO.set_r
  repeat (first|refine oi ?_|refine ow ?_|refine wy ?_|refine wn ?_|refine wt ?_|refine wf' ?_|refine cy ?_|refine cn ?_)
  refine zha hO (Γ.length+0) (zza (zza (zqa rfl))) rfl ?_
  refine zaa (zxb (by omega) (by omega)) ?_
  refine zia hO (((Γ++JB pj L.pm t)++MW L2 m2).length+0) (zqa rfl) (by rw[zta]; exact hsl) (by omega) ?_
  rw[← em]
  refine zGx ok2 hsl (hs2.mono (by omega)) hO.left hv2 ?_
  clear hO
  intro H L3 he3 hO hv3
  refine zaa zKa ?_
  refine zja (fun h3=>?_) (fun h3=>?_)
  ·rw[if_pos h3] at hw
   try simp only[zla,zma]
   rw[hw] at hk
   exact hk _ L3 (he.trans he3) hO hv3
  ·rw[if_neg h3] at hw
   repeat (first|refine oi ?_|refine ow ?_|refine wy ?_|refine wn ?_|refine wt ?_|refine wf' ?_|refine cy ?_|refine cn ?_)
   refine⟨_,by omega,y+1,L3,_,by omega,rfl,rfl,he.trans he3,Mp.program_ok ok2 hsl,(Mp.program_sm hs2).mono (by omega),by rw[em]; exact hO,hv3,?_⟩
   rw[hw,Int.add_assoc]; rfl
 ·have ey:y=ss.length:=by omega
  subst ey
  rw[List.drop_length,zjw] at hw
  refine zgb rfl ?_
  try simp only[zla,zma]
  repeat (first|refine oi ?_|refine ow ?_|refine wy ?_|refine wn ?_|refine wt ?_|refine wf' ?_|refine cy ?_|refine cn ?_)
  refine zha hO (Γ.length+0) (zza (zqa rfl)) rfl ?_
  rw[hw] at hk
  rw[← em]
  refine zgw ok2 (hs2.mono (by omega)) hO hv2 ?_
  clear hO
  intro H L3 he3 hO hv3
  exact hk _ L3 (he.trans he3) hO hv3
end J
set_option maxRecDepth 100000
namespace J
open Go Go.Ab
variable{H:Heap}{Γ Γ2:List (Nat × Blk)}{K:VH}{v w x:Value}{xs ys bs body:List Int}{j p:Nat}{e:Int}{ss tt:List (List Int)}
variable{L:Mloc}{m:Mp}{part pos:Int}{s:List Int}{pj:Nat}{t:Jn}
def Jn.room(t:Jn)(m:Mp)(n:Int):Prop:=¬ (¬ t.fits m n∨4611686018427387904≤t.last)
instance (t:Jn) (m:Mp) (n:Int):Decidable (t.room m n):=by unfold Jn.room; infer_instance
noncomputable def zXc(t:Jn)(m:Mp)(body:List Int):Jn × Mp × Int:=
 if ¬ t.room m body.length then (t,m,92) else
 let t1:Jn:={ t with ready:=false }
 let o:=1 - t.now
 let bank:=t.bank o
 let w:=m.wipe bank
 if w.2≠0 then (t1,w.1,w.2) else
 let y:=w.1.sync
 if y.2≠0 then (t1,y.1,y.2) else
 let l:=zih 1 (t.last+1) body
 let z:=zDc bank 0 l y.1
 if z.2≠0 then (t1,z.1,z.2) else ({ t with now:=o,last:=t.last+1,pos:=l.length,ready:=true },z.1,0)
theorem zNx{N:Nat}:∀ (n y:Nat) (m:Mp) (N:Nat),m.Sm N→(Mp.wipeN part n y m).1.Sm (N+n)
 | 0,_,m,N,h=>h
 | n+1,y,m,N,h=>by
  rw[Mp.wipeN_succ]
  split
  ·exact (zNx (N:=N) n (y+1) m N h).mono (by omega)
  split
  ·exact (Mp.erase_sm h).mono (by omega)
  ·exact (zNx (N:=N) n (y+1) _ (N+1) (Mp.erase_sm h)).mono (by omega)
theorem zOx:∀ (n y:Nat) (m:Mp),m.Ok→(Mp.wipeN part n y m).1.Ok
 | 0,_,m,h=>h
 | n+1,y,m,h=>by
  rw[Mp.wipeN_succ]
  split
  ·exact zOx n (y+1) m h
  split
  ·exact Mp.erase_ok h
  ·exact zOx n (y+1) _ (Mp.erase_ok h)
theorem zup(ok:m.Ok):(m.wipe part).1.Ok:=by
 unfold Mp.wipe
 split
 ·exact ok
 ·exact zOx _ _ _ ok
theorem zWB{N:Nat}(ok:m.Ok)(h:m.Sm N):(m.wipe part).1.Sm (N+4096):=by
 unfold Mp.wipe
 split
 ·exact h.mono (by omega)
 ·exact (zNx (N:=N) _ _ _ N h).mono (by have:=size_le ok (part:=part); omega)
theorem zCk{bank:Int}:∀ (l:List (List Int)) (a:Int) (m:Mp),m.Ok→S64 l→(zDc bank a l m).1.Ok
 | [],_,m,h,_=>Mp.sync_ok h
 | s::r,a,m,h,hs=>by
  rw[zie]
  split
  ·exact Mp.program_ok h (hs s List.mem_cons_self)
  ·exact zCk r _ _ (Mp.program_ok h (hs s List.mem_cons_self)) fun x hx=>hs x (List.mem_cons_of_mem _ hx)
theorem zDk{bank:Int}:∀ (l:List (List Int)) (a:Int) (m:Mp) (N:Nat),m.Sm N→(zDc bank a l m).1.Sm (N+l.length)
 | [],_,m,N,h=>Mp.sync_sm h
 | s::r,a,m,N,h=>by
  rw[zie]
  split
  ·exact (Mp.program_sm h).mono (by simp)
  ·exact (zDk r _ _ (N+1) (Mp.program_sm h)).mono (by simp; omega)
theorem zDg{kind seq:Nat}:(zih kind seq body).length≤100:=by
 unfold zih
 split
 ·simp
 ·rw[zte,zYg]; unfold nCh; omega
theorem zPG(ok:m.Ok):(zXc t m body).2.1.Ok:=by
 unfold zXc
 split
 ·exact ok
 simp only
 split
 ·exact zup ok
 split
 ·exact Mp.sync_ok (zup ok)
 split
 ·exact zCk _ _ _ (Mp.sync_ok (zup ok)) zjj
 ·exact zCk _ _ _ (Mp.sync_ok (zup ok)) zjj
theorem zQG{N:Nat}(ok:m.Ok)(h:m.Sm N):(zXc t m body).2.1.Sm (N+4200):=by
 have h1:=zWB ok h (part:=t.bank (1 - t.now))
 have h2:=Mp.sync_sm h1
 have hl:=zDg (body:=body) (kind:=1) (seq:=t.last+1)
 unfold zXc
 split
 ·exact h.mono (by omega)
 simp only
 split
 ·exact h1.mono (by omega)
 split
 ·exact h2.mono (by omega)
 split
 ·exact (zDk _ _ _ _ h2).mono (by omega)
 ·exact (zDk _ _ _ _ h2).mono (by omega)
theorem zAE(jok:t.Ok):(zXc t m body).1.Ok:=by
 unfold zXc
 split
 ·exact jok
 rename_i hr
 have hr:=Decidable.not_not.1 hr
 unfold Jn.room at hr
 simp only
 split
 ·exact⟨jok.n,fun h=>(by cases h),jok.p,jok.u⟩
 split
 ·exact⟨jok.n,fun h=>(by cases h),jok.p,jok.u⟩
 split
 ·exact⟨jok.n,fun h=>(by cases h),jok.p,jok.u⟩
 ·have hl:=zDg (body:=body) (kind:=1) (seq:=t.last+1)
  refine⟨by have:=jok.n; show 1 - t.now=0∨1 - t.now=1; omega,fun _=>by show t.last+1≤_; omega,by show 0≤((zih 1 (t.last+1) body).length:Int)∧((zih 1 (t.last+1) body).length:Int)≤1000000; omega,by show t.last+1 < 2 ^ 64; omega⟩
theorem zXB{n:Nat}(hn:n+1 < 2 ^ 64){tt:TypeId}{c:Bool}:(zsa P .add tt c).f (zib .u64 n) (zib .u64 1)=some (zib .u64 (n+1)):=by
 rw[zrn rfl,Nat.mod_eq_of_lt (show n+1 < szU .u64 from hn)]
theorem zMJ{t':Jn}{R:List (Nat × Blk)}{c:List Value}(h:St H (((Γ++JB pj L.pm t)++R).set (Γ.length+0) (pj,⟨c,true⟩)))(hc:c=jv L.pm t'):St H ((Γ++JB pj L.pm t')++R):=by
 rw[List.set_append_left _ _ (by simp),Go.Ab.set_r,hc] at h
 exact h
set_option maxHeartbeats 2000000 in
theorem zYB{N:Nat}(ok:m.Ok)(jok:t.Ok)(hsm:m.Sm N)(hN:N+10000≤1000000)(hv:RdB Γ v body)(hb:By body)(hl:body.length≤1000000)(hO:St H ((Γ++JB pj L.pm t)++MW L m))(how:Mown L m)
  (hk:∀ H' L',L.Eq L'→St H' ((Γ++JB pj L'.pm (zXc t m body).1)++MW L' (zXc t m body).2.1)→Mown L' (zXc t m body).2.1→K (int (zXc t m body).2.2) H'):wCall P zPc [ptr pj 0,v] H K:=by
 apply zli; unfold zTf
 unfold zXc at hk
 refine zwa (fun l' H'=>l'=[ptr pj 0,v]∧H'=H∧t.room m body.length) ?_ ?_
 ·refine zDa hv.lenSl ?_
  refine zzE hO ?_
  refine zaa zyc ?_
  by_cases h:t.fits m body.length
  ·rw[decide_eq_true h]
   refine zFe rfl ?_
   repeat refine oi ?_
   refine zha hO (Γ.length+0) (zza (zqa rfl)) rfl ?_
   refine zaa (zMg (k:=.u64)) ?_
   refine zaa zRa ?_
   refine zja (fun h2=>?_) (fun h2=>?_)
   ·rw[if_pos (show ¬ t.room m body.length from fun h3=>h3 (.inr (by omega)))] at hk
    exact hk _ L Mloc.Eq.rfl' hO how
   ·exact⟨rfl,rfl,fun h3=>by rcases h3 with h3|h3; exact h3 h; omega⟩
  ·rw[decide_eq_false h]
   refine zdg rfl ?_
   refine zaa znc ?_
   refine zdg rfl ?_
   rw[if_pos (show ¬ t.room m body.length from fun h3=>h3 (.inl h))] at hk
   exact hk _ L Mloc.Eq.rfl' hO how
 rintro l' H' ⟨rfl,rfl,hr⟩
 rw[if_neg (fun h=>h hr)] at hk
 unfold Jn.room at hr
 try simp only[zla,zma]
 repeat refine oi ?_
 refine zua hO (Γ.length+0) (zza (zqa rfl)) rfl (show 6 < 7 by omega) rfl ?_
 clear hO
 intro H hO
 replace hO:St H ((Γ++JB pj L.pm { t with ready:=false })++MW L m):=zMJ hO rfl
 repeat refine oi ?_
 refine zha hO (Γ.length+0) (zza (zqa rfl)) rfl ?_
 have hn:=jok.n
 refine zaa (v:=int (1 - t.now)) (zae (by show _≤1 - t.now; omega) (by show 1 - t.now≤_; omega)) ?_
 repeat refine oi ?_
 refine zha hO (Γ.length+0) (zza (zqa rfl)) (v:=int (t.bank (1 - t.now))) (by rw[Nat.zero_add]; exact zVB (t:={ t with ready:=false }) (by omega)) ?_
 repeat refine oi ?_
 refine zha hO (Γ.length+0) (zza (zqa rfl)) rfl ?_
 refine zvE (N:=N) ok hsm (by omega) hO how ?_
 clear hO
 intro H L1 he1 hO how1
 simp only at hk
 have w1:=zWB ok hsm (part:=t.bank (1 - t.now))
 have w2:=zup ok (part:=t.bank (1 - t.now))
 generalize m.wipe (t.bank (1 - t.now))=W at *
 refine zaa zKa ?_
 rw[← he1.m] at hO
 refine zja (fun h=>?_) (fun h=>?_)
 ·rw[if_pos h] at hk
  exact hk _ L1 he1 hO how1
 rw[if_neg h] at hk
 repeat refine oi ?_
 refine zha hO (Γ.length+0) (zza (zqa rfl)) rfl ?_
 refine zgw w2 (w1.mono (by omega)) hO how1 ?_
 clear hO
 intro H L2 he2 hO how2
 have w3:=Mp.sync_sm w1
 have w4:=Mp.sync_ok w2
 generalize W.1.sync=Y at *
 refine zaa zKa ?_
 rw[← he2.m] at hO
 refine zja (fun h=>?_) (fun h=>?_)
 ·rw[if_pos h] at hk
  exact hk _ L2 (he1.trans he2) hO how2
 rw[if_neg h] at hk
 repeat refine oi ?_
 refine zha hO (Γ.length+0) (zza (zqa rfl)) rfl ?_
 refine zaa (v:=zib .u64 (t.last+1)) (zXB (n:=t.last) (by omega)) ?_
 refine zJx (kind:=1) (seq:=t.last+1) hO hv.app.app hb (by omega) (by omega) ?_
 have hpl:=zDg (body:=body) (kind:=1) (seq:=t.last+1)
 have hps:=zjj (body:=body) (kind:=1) (seq:=t.last+1)
 generalize zih 1 (t.last+1) body=l at *
 clear hO
 intro H vl hO hvl
 have hO2:St H (((Γ++zGa vl (zgf l))++JB pj L2.pm { t with ready:=false })++MW L2 Y.1):=by
  have h3:=hO
  rw[List.append_assoc Γ] at h3
  have h4:=h3.rot
  rw[← List.append_assoc (Γ++zGa vl (zgf l))] at h4
  exact h4
 have fin:∀ {H:Heap} {Δ1 Δ2:List (Nat × Blk)},St H (((Γ++zGa vl (zgf l))++Δ1)++Δ2)→St H ((Γ++Δ1)++Δ2):=fun h=>h.sub (List.Sublist.append (List.Sublist.append (List.sublist_append_left _ _) (List.Sublist.refl _)) (List.Sublist.refl _))
 refine zQt (N:=N+4096) (a:=0) w4 w3 (by omega) (by omega) hps (RdS.own hvl).app' hO2 how2 ?_
 clear hO hO2
 intro H L3 he3 hO how3
 generalize zDc (t.bank (1 - t.now)) 0 l Y.1=Z at *
 refine zaa zKa ?_
 rw[← he3.m] at hO
 refine zja (fun h=>?_) (fun h=>?_)
 ·rw[if_pos h] at hk
  exact hk _ L3 ((he1.trans he2).trans he3) (fin hO) how3
 rw[if_neg h] at hk
 replace hO:=fin hO
 repeat refine oi ?_
 refine zha hO (Γ.length+0) (zza (zqa rfl)) rfl ?_
 refine zaa (v:=zib .u64 (t.last+1)) (zXB (n:=t.last) (by omega)) ?_
 refine zDa hvl.lenSl ?_
 repeat refine oi ?_
 refine zua hO (Γ.length+0) (zza (zqa rfl)) rfl (show 3 < 7 by omega) rfl ?_
 clear hO
 intro H hO
 replace hO:St H ((Γ++JB pj L3.pm { t with ready:=false,now:=1 - t.now })++MW L3 Z.1):=zMJ hO rfl
 repeat refine oi ?_
 refine zua hO (Γ.length+0) (zza (zqa rfl)) rfl (show 4 < 7 by omega) rfl ?_
 clear hO
 intro H hO
 replace hO:St H ((Γ++JB pj L3.pm { t with ready:=false,now:=1 - t.now,last:=t.last+1 })++MW L3 Z.1):=zMJ hO rfl
 repeat refine oi ?_
 refine zua hO (Γ.length+0) (zza (zqa rfl)) rfl (show 5 < 7 by omega) rfl ?_
 clear hO
 intro H hO
 replace hO:St H ((Γ++JB pj L3.pm { t with ready:=false,now:=1 - t.now,last:=t.last+1,pos:=l.length })++MW L3 Z.1):=zMJ hO rfl
 repeat refine oi ?_
 refine zua hO (Γ.length+0) (zza (zqa rfl)) rfl (show 6 < 7 by omega) rfl ?_
 clear hO
 intro H hO
 replace hO:St H ((Γ++JB pj L3.pm { t with ready:=true,now:=1 - t.now,last:=t.last+1,pos:=l.length })++MW L3 Z.1):=zMJ hO rfl
 exact hk _ L3 ((he1.trans he2).trans he3) hO how3
end J
set_option maxRecDepth 100000
namespace J
open Go Go.Ab
variable{H:Heap}{Γ Γ2:List (Nat × Blk)}{K:VH}{v w x:Value}{xs ys bs body:List Int}{j p:Nat}{e:Int}{ss tt:List (List Int)}
variable{L:Mloc}{m:Mp}{part pos:Int}{s:List Int}{pj:Nat}{t:Jn}
def Jn.more(t:Jn)(m:Mp)(n:Nat):Prop:=¬ (n=0∨t.left m < n∨4611686018427387904≤t.last)
instance (t:Jn) (m:Mp) (n:Nat):Decidable (t.more m n):=by unfold Jn.more; infer_instance
noncomputable def zkb(t:Jn)(m:Mp)(body:List Int):Jn × Mp × Int:=
 if t.ready=false then (t,m,91) else
 let l:=zih 2 (t.last+1) body
 if ¬ t.more m l.length then (t,m,92) else
 let z:=zDc (t.bank t.now) t.pos l m
 if z.2≠0 then ({ t with ready:=false },z.1,z.2) else ({ t with last:=t.last+1,pos:=t.pos+l.length },z.1,0)
theorem zBE(ok:m.Ok):(zkb t m body).2.1.Ok:=by
 unfold zkb
 split
 ·exact ok
 simp only
 split
 ·exact ok
 split
 ·exact zCk _ _ _ ok zjj
 ·exact zCk _ _ _ ok zjj
theorem zCE{N:Nat}(ok:m.Ok)(h:m.Sm N):(zkb t m body).2.1.Sm (N+100):=by
 have hl:=zDg (body:=body) (kind:=2) (seq:=t.last+1)
 unfold zkb
 split
 ·exact h.mono (by omega)
 simp only
 split
 ·exact h.mono (by omega)
 split
 ·exact (zDk _ _ _ _ h).mono (by omega)
 ·exact (zDk _ _ _ _ h).mono (by omega)
theorem zZB(ok:m.Ok)(jok:t.Ok):(zkb t m body).1.Ok:=by
 unfold zkb
 split
 ·exact jok
 rename_i hr0
 simp only
 split
 ·exact jok
 rename_i hr
 have hr:=Decidable.not_not.1 hr
 unfold Jn.more at hr
 split
 ·exact⟨jok.n,fun h=>(by cases h),jok.p,jok.u⟩
 ·have hl:=zDg (body:=body) (kind:=2) (seq:=t.last+1)
  have h1:t.left m=m.size (t.bank t.now) - t.pos:=if_neg hr0
  have h2:=size_le ok (part:=t.bank t.now)
  have:=jok.p
  refine⟨jok.n,fun _=>by show t.last+1≤_; omega,by show 0≤t.pos+((zih 2 (t.last+1) body).length:Int)∧t.pos+((zih 2 (t.last+1) body).length:Int)≤1000000; omega,by show t.last+1 < 2 ^ 64; omega⟩
set_option maxHeartbeats 2000000 in
theorem zZz{N:Nat}(ok:m.Ok)(jok:t.Ok)(hsm:m.Sm N)(hN:N+10000≤1000000)(hv:RdB Γ v body)(hb:By body)(hO:St H ((Γ++JB pj L.pm t)++MW L m))(how:Mown L m)
  (hk:∀ H' L',L.Eq L'→St H' ((Γ++JB pj L'.pm (zkb t m body).1)++MW L' (zkb t m body).2.1)→Mown L' (zkb t m body).2.1→K (int (zkb t m body).2.2) H'):wCall P zAc [ptr pj 0,v] H K:=by
 apply zNh; unfold zif
 unfold zkb at hk
 repeat (first|refine oi ?_|refine ow ?_|refine wy ?_|refine wn ?_|refine wt ?_|refine wf' ?_|refine cy ?_|refine cn ?_)
 refine zha hO (Γ.length+0) (zza (zqa rfl)) rfl ?_
 refine zaa zyc ?_
 refine zLb (fun h0=>?_) (fun h0=>?_)
 ·rw[if_pos (by simpa using h0)] at hk
  exact hk _ L Mloc.Eq.rfl' hO how
 rw[if_neg (by simp at h0; simp[h0])] at hk
 have jl:=jok.l (by simpa using h0)
 have jp:=jok.p
 repeat (first|refine oi ?_|refine ow ?_|refine wy ?_|refine wn ?_|refine wt ?_|refine wf' ?_|refine cy ?_|refine cn ?_)
 refine zha hO (Γ.length+0) (zza (zqa rfl)) rfl ?_
 refine zaa (v:=zib .u64 (t.last+1)) (zXB (n:=t.last) (by omega)) ?_
 refine zJx (kind:=2) (seq:=t.last+1) hO hv.app.app hb (by omega) (by omega) ?_
 simp only at hk
 have hpl:=zDg (body:=body) (kind:=2) (seq:=t.last+1)
 have hps:=zjj (body:=body) (kind:=2) (seq:=t.last+1)
 generalize zih 2 (t.last+1) body=l at *
 clear hO
 intro H vl hO hvl
 have hO2:St H (((Γ++zGa vl (zgf l))++JB pj L.pm t)++MW L m):=by
  have h3:=hO
  rw[List.append_assoc Γ] at h3
  have h4:=h3.rot
  rw[← List.append_assoc (Γ++zGa vl (zgf l))] at h4
  exact h4
 clear hO
 have fin:∀ {H:Heap} {Δ1 Δ2:List (Nat × Blk)},St H (((Γ++zGa vl (zgf l))++Δ1)++Δ2)→St H ((Γ++Δ1)++Δ2):=fun h=>h.sub (List.Sublist.append (List.Sublist.append (List.sublist_append_left _ _) (List.Sublist.refl _)) (List.Sublist.refl _))
 refine zwa (fun l' H'=>l'=[ptr pj 0,vl]∧H'=H∧t.more m l.length) ?_ ?_
 ·refine zDa hvl.lenSl ?_
  refine zaa zfb ?_
  refine zja (fun h=>?_) (fun h=>?_)
  ·rw[if_pos (show ¬ t.more m l.length from fun h3=>h3 (.inl (by omega)))] at hk
   rw[decide_eq_true h]
   refine zaa znc ?_
   refine zaa znc ?_
   refine zdg rfl ?_
   exact hk _ L Mloc.Eq.rfl' (fin hO2) how
  ·rw[decide_eq_false h]
   refine zDa hvl.lenSl ?_
   refine zyE ok jok hO2 ?_
   refine zaa zkc ?_
   refine zaa zRa ?_
   refine zja (fun h2=>?_) (fun h2=>?_)
   ·rw[if_pos (show ¬ t.more m l.length from fun h3=>h3 (.inr (.inl h2)))] at hk
    rw[decide_eq_true h2]
    refine zaa znc ?_
    refine zdg rfl ?_
    exact hk _ L Mloc.Eq.rfl' (fin hO2) how
   ·rw[decide_eq_false h2]
    repeat (first|refine oi ?_|refine ow ?_|refine wy ?_|refine wn ?_|refine wt ?_|refine wf' ?_|refine cy ?_|refine cn ?_)
    refine zha hO2 ((Γ++zGa vl (zgf l)).length+0) (zza (zqa rfl)) rfl ?_
    refine zaa (zMg (k:=.u64)) ?_
    refine zaa zRa ?_
    refine zja (fun h3=>?_) (fun h3=>?_)
    ·rw[if_pos (show ¬ t.more m l.length from fun h4=>h4 (.inr (.inr (by omega))))] at hk
     exact hk _ L Mloc.Eq.rfl' (fin hO2) how
    ·exact⟨rfl,rfl,fun h4=>by rcases h4 with h4|h4|h4; exact h (by omega); exact h2 h4; exact h3 (by omega)⟩
 rintro l' H' ⟨rfl,rfl,hr⟩
 rw[if_neg (fun h=>h hr)] at hk
 unfold Jn.more at hr
 have hleft:t.left m=m.size (t.bank t.now) - t.pos:=if_neg (by simp at h0; simp[h0])
 have hsz:=size_le ok (part:=t.bank t.now)
 try simp only[zla,zma]
 repeat (first|refine oi ?_|refine ow ?_|refine wy ?_|refine wn ?_|refine wt ?_|refine wf' ?_|refine cy ?_|refine cn ?_)
 refine zha hO2 ((Γ++zGa vl (zgf l)).length+0) (zza (zqa rfl)) rfl ?_
 repeat (first|refine oi ?_|refine ow ?_|refine wy ?_|refine wn ?_|refine wt ?_|refine wf' ?_|refine cy ?_|refine cn ?_)
 refine zaa (zjb (by have:=jok.n; omega) (by have:=jok.n; omega)) ?_
 refine zha hO2 ((Γ++zGa vl (zgf l)).length+0) (zza (zqa rfl)) (by rw[Nat.zero_add]; exact zVB jok.n) ?_
 repeat (first|refine oi ?_|refine ow ?_|refine wy ?_|refine wn ?_|refine wt ?_|refine wf' ?_|refine cy ?_|refine cn ?_)
 refine zha hO2 ((Γ++zGa vl (zgf l)).length+0) (zza (zqa rfl)) rfl ?_
 refine zQt (N:=N) ok hsm (by omega) jp hps (RdS.own hvl).app' hO2 how ?_
 clear hO2
 intro H L3 he3 hO how3
 generalize zDc (t.bank t.now) t.pos l m=Z at *
 replace hO:=fin hO
 rw[← he3.m] at hO
 refine zaa zKa ?_
 refine zja (fun h=>?_) (fun h=>?_)
 ·rw[if_pos h] at hk
  repeat (first|refine oi ?_|refine ow ?_|refine wy ?_|refine wn ?_|refine wt ?_|refine wf' ?_|refine cy ?_|refine cn ?_)
  refine zua hO (Γ.length+0) (zza (zqa rfl)) rfl (show 6 < 7 by omega) rfl ?_
  clear hO
  intro H hO
  replace hO:St H ((Γ++JB pj L3.pm { t with ready:=false })++MW L3 Z.1):=zMJ hO rfl
  exact hk _ L3 he3 hO how3
 rw[if_neg h] at hk
 repeat (first|refine oi ?_|refine ow ?_|refine wy ?_|refine wn ?_|refine wt ?_|refine wf' ?_|refine cy ?_|refine cn ?_)
 refine zha hO (Γ.length+0) (zza (zqa rfl)) rfl ?_
 refine zaa (v:=zib .u64 (t.last+1)) (zXB (n:=t.last) (by omega)) ?_
 repeat (first|refine oi ?_|refine ow ?_|refine wy ?_|refine wn ?_|refine wt ?_|refine wf' ?_|refine cy ?_|refine cn ?_)
 refine zha hO (Γ.length+0) (zza (zqa rfl)) rfl ?_
 refine zDa hvl.lenSl ?_
 refine zaa (zxb (by omega) (by omega)) ?_
 repeat (first|refine oi ?_|refine ow ?_|refine wy ?_|refine wn ?_|refine wt ?_|refine wf' ?_|refine cy ?_|refine cn ?_)
 refine zua hO (Γ.length+0) (zza (zqa rfl)) rfl (show 4 < 7 by omega) rfl ?_
 clear hO
 intro H hO
 replace hO:St H ((Γ++JB pj L3.pm { t with last:=t.last+1 })++MW L3 Z.1):=zMJ hO rfl
 repeat (first|refine oi ?_|refine ow ?_|refine wy ?_|refine wn ?_|refine wt ?_|refine wf' ?_|refine cy ?_|refine cn ?_)
 refine zua hO (Γ.length+0) (zza (zqa rfl)) rfl (show 5 < 7 by omega) rfl ?_
 clear hO
 intro H hO
 replace hO:St H ((Γ++JB pj L3.pm { t with last:=t.last+1,pos:=t.pos+l.length })++MW L3 Z.1):=zMJ hO rfl
 exact hk _ L3 he3 hO how3
end J
set_option maxRecDepth 100000
namespace J
open Go Go.Ab
variable{H:Heap}{Γ Γ2:List (Nat × Blk)}{K:VH}{v w x:Value}{xs ys bs body:List Int}{j p:Nat}{e:Int}{ss tt:List (List Int)}
variable{L:Mloc}{m:Mp}{part pos:Int}{s:List Int}{pj:Nat}{t:Jn}
theorem _root_.Go.Ab.St.ne[lp:LpC]{i j p q:Nat}{b b':Blk}(h:St H Γ)(hi:Γ[i]?=some (p,b))(hj:Γ[j]?=some (q,b'))(hij:i≠j):p≠q:=by
 intro e
 subst e
 have n1:(Γ.map (·.1))[i]?=some p:=by rw[List.getElem?_map,hi]; rfl
 have n2:(Γ.map (·.1))[j]?=some p:=by rw[List.getElem?_map,hj]; rfl
 have hlt:i < (Γ.map (·.1)).length:=by rw[List.length_map]; exact (List.getElem?_eq_some_iff.1 hi).1
 exact hij ((List.getElem?_inj hlt h.nd).1 (n1.trans n2.symm))
theorem zNJ{p q o o':Nat}{k:IntKind}{x:Int}(h:p≠q):zOf (zNa [ptr p o]) (zNa [ptr q o',.int k x]):=by
 show zAd [p] [q]=true
 have e:Nat.beq p q=false:=by
  cases hb:Nat.beq p q with
  | false=>rfl
  | true=>exact absurd (Nat.eq_of_beq_eq_true hb) h
 simp[zAd,zFb,zRD,e]
def zEk(x y:Row):Prop:=0 < x.bodies.length∧(y.bodies.length=0∨y.first < x.first)
instance (x y:Row):Decidable (zEk x y):=by unfold zEk; infer_instance
noncomputable def zvc(m:Mp)(a b:Int):Row:=if zEk (zVa (m.secs a)) (zVa (m.secs b)) then zVa (m.secs a) else zVa (m.secs b)
noncomputable def zRm(m:Mp)(a b:Int):Jn:=⟨a,b,if zEk (zVa (m.secs a)) (zVa (m.secs b)) then 0 else 1,(zvc m a b).last,0,false⟩
theorem bJn(pm:Nat)(a b:Int):(zAa P 137).f [(0,ptr pm 0),(1,agg [int a,int b]),(2,.int .i64 1)]=some (agg (jv pm ⟨a,b,1,0,0,false⟩)):=by kernel_rfl
theorem zBM(a b:Int):(zAa P 22).f [(0,int a),(1,int b)]=some (agg [int a,int b]):=by kernel_rfl
structure OwnBs (Δ:List (Nat × Blk)) (vb:Value) (vals:List Value) (bs:List (List Int)):Prop where
 o:Own 1 vb bs.length vals
 r:RdBs Δ vals bs
theorem row_one{vb:Value}{n:Nat}{vals:List Value}(h:Own 1 vb n vals){r:Row}:(zlj vb r).all oneCell=true:=by
 rcases h with⟨rfl,_,_⟩|⟨p,rfl|rfl,_⟩ <;> rfl
theorem zOJ{vb:Value}{n:Nat}{vals:List Value}(h:Own 1 vb n vals):∃ a k c,vb=.slice a k c:=by
 rcases h with⟨rfl,_,_⟩|⟨p,rfl|rfl,_⟩ <;> exact⟨_,_,_,rfl⟩
set_option maxHeartbeats 2000000 in
theorem zDE{a b:Int}(ok:m.Ok)(ha:∀ s ∈ m.secs a,By s)(hb:∀ s ∈ m.secs b,By s)(hO:St H (Γ++MW L m))
  (hk:∀ H' Δ vb vals pj,St H' ((((Γ++Δ)++zGa vb vals)++JB pj L.pm (zRm m a b))++MW L m)→OwnBs Δ vb vals (zvc m a b).bodies→K (.tuple [ptr pj 0,vb].toArray) H') :
  wCall P zJh [ptr L.pm 0,int a,int b] H K:=by
 apply zSs; unfold zSp
 refine zaa (zBM _ _) ?_
 refine zaa (bJn _ _ _) ?_
 refine zxa hO ?_
 clear hO
 intro pj H hO
 replace hO:St H ((Γ++MW L m)++JB pj L.pm ⟨a,b,1,0,0,false⟩):=hO
 replace hO:=hO.rot
 refine zPt ok ha hO ?_
 clear hO
 intro H Δ1 v1 vals1 hO own1 rd1
 refine zPt ok hb hO ?_
 clear hO
 intro H Δ2 v2 vals2 hO own2 rd2
 have hf1:(zVa (m.secs a)).last < 2 ^ 64∨True:=.inr trivial
 unfold zRm zvc at hk
 generalize zVa (m.secs a)=X at *
 generalize zVa (m.secs b)=Y at *
 rw[zzM]
 refine zxa hO ?_
 clear hO
 intro q9 H hO
 refine zxa hO ?_
 clear hO
 intro q10 H hO
 rw[List.append_assoc _ [_]] at hO
 obtain⟨B,hB,hj⟩:∃ B,B=((((((Γ++JB pj L.pm ⟨a,b,1,0,0,false⟩)++Δ1)++zGa v1 vals1)++Δ2)++zGa v2 vals2)++MW L m)∧B[Γ.length+0]?=some (pj,⟨jv L.pm ⟨a,b,1,0,0,false⟩,true⟩):=⟨_,rfl,zza (zza (zza (zza (zza (zqa rfl)))))⟩
 rw[← hB] at hO
 refine zoa hO (B.length+0) (zqa rfl) rfl (show (zlj v1 X).length=3 from rfl) (row_one own1) ?_
 clear hO
 intro H hO
 replace hO:St H (B++[(q9,⟨zlj v1 X,true⟩),(q10,⟨zlj zya zOt,true⟩)]):=hO.set_r
 refine zoa hO (B.length+1) (zqa rfl) rfl (show (zlj v2 Y).length=3 from rfl) (row_one own2) ?_
 clear hO
 intro H hO
 replace hO:St H (B++[(q9,⟨zlj v1 X,true⟩),(q10,⟨zlj v2 Y,true⟩)]):=hO.set_r
 have fin1:∀ {H:Heap} {t':Jn} {R:List (Nat × Blk)},St H (B.set (Γ.length+0) (pj,⟨jv L.pm t',true⟩)++R)→St H ((((Γ++Δ1)++zGa v1 vals1)++JB pj L.pm t')++MW L m):=by
  intro H t' R h
  have h2:=h.left
  rw[hB,List.set_append_left _ _ (by simp),List.set_append_left _ _ (by simp),List.set_append_left _ _ (by simp),List.set_append_left _ _ (by simp),List.set_append_left _ _ (by simp),Go.Ab.set_r] at h2
  have h3:St H ((((Γ++JB pj L.pm t')++Δ1)++zGa v1 vals1)++MW L m):=h2.sub (List.Sublist.append (by rw[List.append_assoc _ Δ2]; exact List.sublist_append_left _ _) (List.Sublist.refl _))
  refine h3.perm (List.Perm.append_right _ ?_)
  rw[List.append_assoc _ Δ1,List.append_assoc _ Δ1,List.append_assoc Γ,List.append_assoc Γ]
  exact List.Perm.append_left _ List.perm_append_comm
 have fin2:∀ {H:Heap} {t':Jn} {R:List (Nat × Blk)},St H (B.set (Γ.length+0) (pj,⟨jv L.pm t',true⟩)++R)→St H ((((Γ++Δ2)++zGa v2 vals2)++JB pj L.pm t')++MW L m):=by
  intro H t' R h
  have h2:=h.left
  rw[hB,List.set_append_left _ _ (by simp),List.set_append_left _ _ (by simp),List.set_append_left _ _ (by simp),List.set_append_left _ _ (by simp),List.set_append_left _ _ (by simp),Go.Ab.set_r] at h2
  have h3:St H ((((Γ++JB pj L.pm t')++Δ2)++zGa v2 vals2)++MW L m):=h2.sub (List.Sublist.append (List.Sublist.append (List.Sublist.append (by rw[List.append_assoc _ Δ1]; exact List.sublist_append_left _ _) (List.Sublist.refl _)) (List.Sublist.refl _)) (List.Sublist.refl _))
  refine h3.perm (List.Perm.append_right _ ?_)
  rw[List.append_assoc _ Δ2,List.append_assoc _ Δ2,List.append_assoc Γ,List.append_assoc Γ]
  exact List.Perm.append_left _ List.perm_append_comm
 refine zwa (fun l' H'=>l'=[ptr pj 0,ptr q10 0]∧(zEk X Y→St H' (B.set (Γ.length+0) (pj,⟨jv L.pm ⟨a,b,0,0,0,false⟩,true⟩)++[(q9,⟨zlj v1 X,true⟩),(q10,⟨zlj v1 X,true⟩)]))∧(¬ zEk X Y→St H' (B++[(q9,⟨zlj v1 X,true⟩),(q10,⟨zlj v2 Y,true⟩)]))) ?_ ?_
 ·refine zwa (fun l' H'=>l'=[ptr pj 0,ptr q9 0,ptr q10 0,.bool (decide (zEk X Y))]∧H'=H) ?_ ?_
  ·refine zaa zga ?_
   refine zha hO (B.length+0) (zqa rfl) (v:=v1) rfl ?_
   refine zDa own1.lenSl ?_
   refine zaa zkc ?_
   refine zja (fun h=>?_) (fun h=>?_)
   ·rw[decide_eq_true h]
    refine zaa zga ?_
    refine zha hO (B.length+1) (zqa rfl) (v:=v2) rfl ?_
    refine zDa own2.lenSl ?_
    refine zaa zfb ?_
    refine zja (fun h2=>?_) (fun h2=>?_)
    ·rw[decide_eq_true h2]
     refine zaa znc ?_
     refine zaa znc ?_
     exact⟨by rw[decide_eq_true (show zEk X Y from⟨by omega,.inl (by omega)⟩)],rfl⟩
    ·rw[decide_eq_false h2]
     refine zaa zga ?_
     refine zha hO (B.length+0) (zqa rfl) (v:=zib .u64 X.first) rfl ?_
     refine zaa zga ?_
     refine zha hO (B.length+1) (zqa rfl) (v:=zib .u64 Y.first) rfl ?_
     refine zaa zkc ?_
     refine zaa zRa ?_
     refine zaa znc ?_
     refine⟨?_,rfl⟩
     rw[decide_eq_decide.2 (show ((Y.first:Int) < X.first)↔zEk X Y from⟨fun h3=>⟨by omega,.inr (by omega)⟩,fun h3=>by rcases h3.2 with h4|h4 <;> omega⟩)]
   ·rw[decide_eq_false h]
    refine zaa zRa ?_
    exact⟨by rw[decide_eq_false (show ¬ zEk X Y from fun h2=>by have:=h2.1; omega)],rfl⟩
  rintro l' H' ⟨rfl,rfl⟩
  try simp only[zla,zma]
  refine zja (fun h=>?_) (fun h=>?_)
  ·refine zia hO (B.length+0) (zqa rfl) rfl (by omega) ?_
   refine zaa zfa ?_
   refine zaa zga ?_
   have hne:=St.ne hO (i:=B.length+0) (j:=Γ.length+0) (zqa rfl) (zza hj) (by have:=(List.getElem?_eq_some_iff.1 hj).1; omega)
   refine zua hO (Γ.length+0) (zza hj) rfl (show 3 < 7 by omega) (show _=jv L.pm ⟨a,b,0,0,0,false⟩ from rfl) ?_
   clear hO
   intro H hO
   rw[List.set_append_left _ _ ((List.getElem?_eq_some_iff.1 hj).1)] at hO
   refine⟨zNJ hne,?_⟩
   refine zoa hO (_+1) (zqa rfl) rfl (show (zlj v1 X).length=3 from rfl) (row_one own1) ?_
   clear hO
   intro H hO
   exact⟨trivial,fun _=>hO.set_r,fun h2=>absurd h h2⟩
  ·exact⟨trivial,fun h2=>absurd h2 h,fun _=>hO⟩
 clear hO
 rintro l' H ⟨rfl,hOp,hOn⟩
 try simp only[zla,zma]
 obtain⟨a1,n1,c1,e1⟩:=zOJ own1
 obtain⟨a2,n2,c2,e2⟩:=zOJ own2
 by_cases h:zEk X Y
 ·have hO:=hOp h
  rw[if_pos h,if_pos h] at hk
  generalize hB2:B.set (Γ.length+0) (pj,⟨jv L.pm ⟨a,b,0,0,0,false⟩,true⟩)=B2 at *
  refine zaa zga ?_
  refine zha hO (B2.length+1) (zqa rfl) (v:=zib .u64 X.last) rfl ?_
  refine zaa zfa ?_
  refine zaa zga ?_
  have hj2:B2[Γ.length+0]?=some (pj,⟨jv L.pm ⟨a,b,0,0,0,false⟩,true⟩):=by rw[← hB2]; exact zdw hj
  refine zua hO (Γ.length+0) (zza hj2) rfl (show 4 < 7 by omega) (show _=jv L.pm ⟨a,b,0,X.last,0,false⟩ from rfl) ?_
  clear hO
  intro H hO
  rw[List.set_append_left _ _ ((List.getElem?_eq_some_iff.1 hj2).1),← hB2,List.set_set] at hO
  refine zaa zga ?_
  refine zha hO (_+1) (zqa rfl) (v:=v1) rfl ?_
  exact hk H Δ1 v1 vals1 pj (fin1 hO) ⟨own1,rd1⟩
 ·have hO:=hOn h
  rw[if_neg h,if_neg h] at hk
  refine zaa zga ?_
  refine zha hO (B.length+1) (zqa rfl) (v:=zib .u64 Y.last) rfl ?_
  refine zaa zfa ?_
  refine zaa zga ?_
  refine zua hO (Γ.length+0) (zza hj) rfl (show 4 < 7 by omega) (show _=jv L.pm ⟨a,b,1,Y.last,0,false⟩ from rfl) ?_
  clear hO
  intro H hO
  rw[List.set_append_left _ _ ((List.getElem?_eq_some_iff.1 hj).1)] at hO
  refine zaa zga ?_
  refine zha hO (_+1) (zqa rfl) (v:=v2) rfl ?_
  exact hk H Δ2 v2 vals2 pj (fin2 hO) ⟨own2,rd2⟩
end J
set_option maxRecDepth 100000
namespace J
open Go Go.Ab
variable{xs ys bs body:List Int}{ss tt pre rest:List (List Int)}{s:List Int}{kind seq:Nat}{out:Row}{want:Nat}
theorem zRG{c:List Int}(h:c.length≤63):(zRB c).getD 63 1=0:=by
 unfold zRB
 rw[← List.append_assoc,List.getD_eq_getElem?_getD,List.getElem?_append_right (by simp; omega)]
 have:63 - (c++List.replicate (63 - c.length) (255:Int)).length=0:=by simp; omega
 rw[this]; rfl
theorem zaC(hl:body.length≤4000):zih kind seq body=zXd (zwl kind seq body):=if_neg (by omega)
theorem zSG(hl:body.length≤4000):(zih kind seq body).length=(body.length+79) / 63:=by
 rw[zaC hl,zte,zYg]; unfold nCh; omega
theorem zZI{n:Nat}(h:n≤4000):zRb n=(n+79) / 63:=by
 unfold zRb
 rw[if_neg (by omega),Int.toNat_natCast]
theorem zTG:(zih kind seq body).length=zRb body.length:=by
 by_cases h:body.length≤4000
 ·rw[zSG h,zZI h]
 ·unfold zih zRb
  rw[if_pos (by omega),if_pos (by omega)]; rfl
theorem zaJ(h:(zPd ss).many≠0):∃ s r,ss=s::r∧s.take 2=[66,74]∧(zPd ss).seq=zMr s∧(zPd ss).many=zRb (zue s)∧∀ x ∈ ss.take (zPd ss).many,x.getD 63 1=0:=by
 match ss,h with
 | [],h=>exact absurd rfl h
 | s::r,h=>
  refine⟨s,r,rfl,?_⟩
  unfold zPd at h ⊢
  simp only at h ⊢
  by_cases hb:zCD (s::r) s
  ·rw[if_pos hb] at h; exact absurd rfl h
  rw[if_neg hb] at h ⊢
  by_cases hp:zih (zah s) (zMr s) (zAk (s::r) s)≠(s::r).take (zRb (zue s))
  ·rw[if_pos hp] at h; exact absurd rfl h
  rw[if_neg hp] at h ⊢
  refine⟨Decidable.not_not.1 fun h2=>hb (.inl h2),rfl,rfl,?_⟩
  have hp:=Classical.not_not.1 hp
  simp only
  rw[← hp]
  intro x hx
  unfold zih at hx
  split at hx
  ·cases hx
  ·obtain⟨k,_,rfl⟩:=List.mem_map.1 hx
   exact zRG (by rw[List.length_take]; omega)
theorem zbC:∀ (k n want:Nat) (ss:List (List Int)) (out:Row),ss.length≤k→ss.length < n→zTc n want ss out=zTc (ss.length+1) want ss out
 | k,0,want,ss,out,_,h=>by omega
 | k,n+1,want,ss,out,hk,h=>by
  show (if znd want (zPd ss) out then out else _)=(if znd want (zPd ss) out then out else _)
  by_cases hs:znd want (zPd ss) out
  ·rw[if_pos hs,if_pos hs]
  ·rw[if_neg hs,if_neg hs]
   have hm:(zPd ss).many≠0:=fun h0=>hs (.inl h0)
   have hle:=zBk hm
   have hd:(ss.drop (zPd ss).many).length < ss.length:=by rw[List.length_drop]; omega
   match k,hk with
   | 0,hk=>omega
   | k+1,hk=>
    rw[zbC k n 2 _ _ (by omega) (by omega),zbC k ss.length 2 _ _ (by omega) (by omega)]
noncomputable def goS(want:Nat)(ss:List (List Int))(out:Row):Row:=zTc (ss.length+1) want ss out
theorem zDD:goS want ss out=if znd want (zPd ss) out then out else goS 2 (ss.drop (zPd ss).many) (zcf want (zPd ss) out):=by
 show (if znd want (zPd ss) out then out else _)=_
 by_cases hs:znd want (zPd ss) out
 ·rw[if_pos hs,if_pos hs]
 ·rw[if_neg hs,if_neg hs]
  have hm:(zPd ss).many≠0:=fun h0=>hs (.inl h0)
  have hle:=zBk hm
  exact zbC _ _ _ _ _ (Nat.le_refl _) (by rw[List.length_drop]; omega)
theorem zcC:zVa ss=goS 1 ss zOt:=rfl
theorem zbJ(h:znd want (zPd ss) out):goS want ss out=out:=by rw[zDD,if_pos h]
theorem zaA:∀ (k:Nat) (ss:List (List Int)) (out:Row),ss.length≤k→(goS 2 ss out).first=out.first∧∃ l,(goS 2 ss out).bodies=out.bodies++l
 | k,ss,out,hk=>by
  rw[zDD]
  by_cases hs:znd 2 (zPd ss) out
  ·rw[if_pos hs]; exact⟨rfl,[],by simp⟩
  ·rw[if_neg hs]
   have hm:(zPd ss).many≠0:=fun h0=>hs (.inl h0)
   have hle:=zBk hm
   match k,hk with
   | 0,hk=>omega
   | k+1,hk=>
    obtain⟨h1,l,h2⟩:=zaA k (ss.drop (zPd ss).many) (zcf 2 (zPd ss) out) (by rw[List.length_drop]; omega)
    refine⟨h1,[(zPd ss).body]++l,?_⟩
    rw[h2]
    show (out.bodies++[_])++l=_
    simp
theorem zbA:(zVa ss).bodies=[]∨((zPd ss).many≠0∧(zVa ss).first=(zPd ss).seq):=by
 rw[zcC,zDD]
 by_cases hs:znd 1 (zPd ss) zOt
 ·rw[if_pos hs]; exact .inl rfl
 ·rw[if_neg hs]
  have hm:(zPd ss).many≠0:=fun h0=>hs (.inl h0)
  obtain⟨h1,_⟩:=zaA _ (ss.drop (zPd ss).many) (zcf 1 (zPd ss) zOt) (Nat.le_refl _)
  exact .inr ⟨hm,h1⟩
def Pre(pre:List (List Int))(r:Row):Prop:=∀ rest,zVa (pre++rest)=goS 2 rest r
theorem Pre.stop{r:Row}(h:Pre pre r)(hs:(zPd rest).many=0):zVa (pre++rest)=r:=by rw[h]; exact zbJ (.inl hs)
end J
set_option maxRecDepth 100000
namespace J
open Go Go.Ab
variable{d d':Dv}{m:Mp}{s:List Int}{l:List (List Int)}{i:Nat}
def kp(d:Dv)(i:Nat):List Int:=(d.cells.getD i zQa).kept
def sn(d:Dv)(i:Nat):List Int:=(d.cells.getD i zQa).seen
def wr(d:Dv)(i:Nat):Int:=(d.cells.getD i zQa).wear
def keys(l:List (Nat × List Int)):List Nat:=l.map (·.1)
theorem zcJ{l:List (Nat × List Int)}{x:Nat × List Int}(h:x ∈ l):x.1 ∈ keys l:=List.mem_map.2 ⟨x,h,rfl⟩
theorem zED{a b:List (Nat × List Int)}:keys (a++b)=keys a++keys b:=List.map_append
structure Wt (d:Dv):Prop where
 nd:(keys d.done).Nodup
 lt:∀ x ∈ d.done,x.1 < d.cells.length
 p:∀ i w,(i,w) ∈ d.done→sn d i=w
 n:∀ i,i ∉ keys d.done→sn d i=kp d i
structure Same (d d':Dv):Prop where
 c:d'.cells=d.cells
 w:d'.done=d.done
 m:d'.most=d.most
theorem Same.kp(h:Same d d'):kp d' i=kp d i:=by unfold J.kp; rw[h.c]
theorem Same.sn(h:Same d d'):sn d' i=sn d i:=by unfold J.sn; rw[h.c]
theorem Same.wr(h:Same d d'):wr d' i=wr d i:=by unfold J.wr; rw[h.c]
theorem Same.wt(h:Same d d')(hw:Wt d):Wt d':=⟨by rw[h.w]; exact hw.nd,by rw[h.w,h.c]; exact hw.lt,by rw[h.w]; intro i w hi; rw[h.sn]; exact hw.p i w hi,by rw[h.w]; intro i hi; rw[h.sn,h.kp]; exact hw.n i hi⟩
structure Put1 (d:Dv) (i:Nat) (s:List Int) (d':Dv):Prop where
 len:d'.cells.length=d.cells.length
 m:d'.most=d.most
 w:d'.done=d.done++[(i,s)]
 k:∀ j,kp d' j=kp d j
 s:∀ j,sn d' j=if i=j then s else sn d j
 up:d'.down=false
 bud:d.budget < 0→d'.budget=d.budget
theorem Put1.wt(h:Put1 d i s d')(hw:Wt d)(hi:i < d.cells.length)(hn:i ∉ keys d.done):Wt d':=by
 refine⟨?_,?_,?_,?_⟩
 ·rw[h.w,zED,List.nodup_append]
  refine⟨hw.nd,by simp[keys],fun a ha b hb=>?_⟩
  have:b=i:=by simpa [keys] using hb
  subst this
  intro e; subst e; exact hn ha
 ·rw[h.w,h.len]
  intro x hx
  rcases List.mem_append.1 hx with hx|hx
  ·exact hw.lt x hx
  ·have:x=(i,s):=by simpa using hx
   subst this; exact hi
 ·rw[h.w]
  intro j w hj
  rw[h.s]
  rcases List.mem_append.1 hj with hj|hj
  ·rw[if_neg (fun e:i=j=>hn (by rw[e]; exact zcJ hj))]; exact hw.p j w hj
  ·have:(j,w)=(i,s):=by simpa using hj
   cases this; rw[if_pos rfl]
 ·rw[h.w]
  intro j hj
  rw[zED,List.mem_append,not_or] at hj
  rw[h.s,h.k,if_neg (fun e=>hj.2 (by subst e; simp[keys]))]; exact hw.n j hj.1
structure Out (d d':Dv):Prop where
 s:Same d d'
 dn:d'.down=true
 b:0≤d.budget
structure Kept (d d':Dv):Prop where
 len:d'.cells.length=d.cells.length
 m:d'.most=d.most
 w:d'.done=[]
 k:∀ j,kp d' j=sn d j
 s:∀ j,sn d' j=sn d j
 wr:∀ j,wr d' j=wr d j
 up:d'.down=false
 bud:d.budget < 0→d'.budget=d.budget
theorem Kept.wt(h:Kept d d'):Wt d':=⟨by rw[h.w]; simp[keys],(by rw[h.w]; intro x hx; cases hx),(by rw[h.w]; intro i w hi; cases hi),fun i _=>by rw[h.s,h.k]⟩
def zUN(old new got:List Int):Prop:=∃ n,n≤64∧got=new.take n++old.drop n
structure Anew (d d':Dv):Prop where
 len:d'.cells.length=d.cells.length
 m:d'.most=d.most
 w:d'.done=[]
 s:∀ j,sn d' j=kp d' j
 n:∀ j,j ∉ keys d.done→kp d' j=kp d j
 t:∀ j w,(j,w) ∈ d.done→zUN (kp d j) w (kp d' j)
 wr:∀ j,wr d' j=wr d j
 up:d'.down=false
 bud:d'.budget=-1
theorem Anew.wt(h:Anew d d'):Wt d':=⟨by rw[h.w]; simp[keys],(by rw[h.w]; intro x hx; cases hx),(by rw[h.w]; intro i w hi; cases hi),fun i _=>h.s i⟩
end J
set_option maxRecDepth 100000
namespace J
open Go Go.Ab
variable{d d' d0:Dv}{m m':Mp}{s:List Int}{l:List (List Int)}{i j:Nat}{A B:Nat}{b:Int}{N:Nat}
def off(A:Nat)(b:Int):Nat:=if b=0 then 0 else A
def siz(A B:Nat)(b:Int):Nat:=if b=0 then A else B
structure Two (m:Mp) (A B:Nat):Prop where
 sp:∃ r,m.spans=(0,A)::(A,B)::r
 fit:A+B≤m.d.cells.length
abbrev Bit(b:Int):Prop:=b=0∨b=1
theorem zPx(h:Two m A B)(hb:Bit b):m.has b∧m.span b=(off A b,siz A B b):=by
 obtain⟨r,e⟩:=h.sp
 unfold Mp.has Mp.span
 rw[e]
 rcases hb with rfl|rfl
 ·exact⟨⟨by omega,by simp; omega⟩,rfl⟩
 ·exact⟨⟨by omega,by simp; omega⟩,rfl⟩
theorem zFD(h:Two m A B)(hb:Bit b):m.size b=siz A B b:=by
 unfold Mp.size
 rw[if_pos (zPx h hb).1,(zPx h hb).2]
def bk(d:Dv)(A B:Nat)(b:Int):List (List Int):=(List.range (siz A B b)).map fun y=>kp d (off A b+y)
structure Wip (d0 d:Dv) (lo hi:Nat):Prop where
 len:d.cells.length=d0.cells.length
 m:d.most=d0.most
 wt:Wt d
 k:∀ j,kp d j=kp d0 j
 ks:∀ x ∈ d.done,lo≤x.1∧x.1 < hi∧x.2=blank
 w1:∀ j,wr d j≤wr d0 j+1
 w2:∀ j,j ∉ keys d.done→wr d j≤wr d0 j
 bud:d0.budget < 0→d.budget=d0.budget
theorem Wip.out{lo hi:Nat}(h:Wip d0 d lo hi)(ho:Out d d'):Wip d0 d' lo hi:=by
 refine⟨by rw[ho.s.c,h.len],by rw[ho.s.m,h.m],ho.s.wt h.wt,fun j=>by rw[ho.s.kp,h.k],by rw[ho.s.w]; exact h.ks,fun j=>by rw[ho.s.wr]; exact h.w1 j,fun j hj=>by rw[ho.s.wr]; exact h.w2 j (by rw[← ho.s.w]; exact hj),fun hb=>?_⟩
 have:=ho.b
 have:=h.bud hb
 omega
def pl:Nat→List (List Int)→List (Nat × List Int)
 | _,[]=>[]
 | n,s::r=>(n,s)::pl (n+1) r
end J
set_option maxRecDepth 100000
namespace J
open Go Go.Ab
variable{d d' d0 d1:Dv}{m m':Mp}{s x:List Int}{l ss tt pre rest:List (List Int)}{A B:Nat}{b:Int}{F last:Nat}{body:List Int}{now:List (List Int)}
def Ers(ss tt:List (List Int)):Prop:=tt.length=ss.length∧∀ i (h:i < ss.length) (h':i < tt.length),zUN ss[i] blank tt[i]
theorem zUG(h:zUN s blank x)(hx:x.take 2=[66,74]):x=s:=by
 obtain⟨n,hn,rfl⟩:=h
 match n with
 | 0=>simp
 | n+1=>exact absurd hx (by
   have:blank.take (n+1)=255::(List.replicate 63 255).take n:=rfl
   rw[this]
   simp)
def Oth(ss:List (List Int))(F:Nat):Prop:=∀ tt,Ers ss tt→(zVa tt).bodies=[]∨(zVa tt).first < F
def HeadLt(ss:List (List Int))(F:Nat):Prop:=∀ s r,ss=s::r→s.take 2=[66,74]→zMr s < F
theorem HeadLt.oth(h:HeadLt ss F):Oth ss F:=by
 intro tt ht
 rcases zbA (ss:=tt) with h1|⟨h1,h2⟩
 ·exact .inl h1
 ·obtain⟨s,r,e,g1,g2,_⟩:=zaJ h1
  right
  rw[h2,g2]
  have hl:0 < tt.length:=by rw[e]; simp
  have hl':0 < ss.length:=by have:=ht.1; omega
  have ht0:=ht.2 0 hl' hl
  have es:tt[0]=s:=by simp[e]
  rw[es] at ht0
  have:=zUG ht0 g1
  match ss,hl',this with
  | x::r',_,this=>
   have this:s=x:=this
   rw[this]
   exact h x r' rfl (by rw[← this]; exact g1)
theorem HeadLt.mono{F':Nat}(h:HeadLt ss F)(hf:F≤F'):HeadLt ss F':=fun s r e g=>Nat.lt_of_lt_of_le (h s r e g) hf
structure Jst (d:Dv) (A B:Nat) (i:Int) (F last:Nat) (now:List (List Int)):Prop where
 i01:Bit i
 bod:(zVa (bk d A B i)).bodies=now
 lst:(zVa (bk d A B i)).last=last
 fst:now≠[]→(zVa (bk d A B i)).first=F
 nil:now=[]→i=1∧F=0
 le:F≤last
 oth:Oth (bk d A B (1 - i)) F
 own:HeadLt (bk d A B i) (last+1)
end J
set_option maxRecDepth 100000
namespace J
open Go Go.Ab
variable{d d' d0 d1:Dv}{m m':Mp}{s x:List Int}{l ss tt pre rest:List (List Int)}{A B k:Nat}{b:Int}{F last:Nat}{body:List Int}{now more:List (List Int)}{t:Jn}
def Rdy(d:Dv)(A B:Nat)(i:Int)(pos:Int)(F last:Nat)(now:List (List Int)):Prop:=∃ pre n,bk d A B i=pre++List.replicate n blank∧Pre pre ⟨now,F,last⟩∧pos=(pre.length:Int)∧pre≠[]∧now≠[]
structure Up (t:Jn) (m:Mp) (A B:Nat) (now:List (List Int)):Prop where
 up:m.d.down=false
 done:m.d.done=[]
 sk:∀ j,sn m.d j=kp m.d j
 st:∃ F,Jst m.d A B t.now F t.last now∧(t.ready=true→Rdy m.d A B t.now t.pos F t.last now)
structure Wd (m:Mp) (A B k:Nat):Prop where
 two:Two m A B
 wear:∀ j,wr m.d j≤k
 most:m.d.most=10000
structure Jab (t:Jn):Prop where
 a:t.a=0
 b:t.b=1
theorem Up.wt(h:Up t m A B now):Wt m.d:=⟨by rw[h.done]; simp[keys],(by rw[h.done]; intro x hx; cases hx),(by rw[h.done]; intro i w hi; cases hi),fun i _=>h.sk i⟩
end J
set_option maxRecDepth 100000
namespace J
open Go Go.Ab
variable{d d' d0 d1:Dv}{m m':Mp}{s x:List Int}{l ss tt:List (List Int)}{A B k:Nat}{b part pos:Int}{body:List Int}{t:Jn}{a:Int}
structure Cell.By (c:Cell):Prop where
 k:J.By c.kept
 s:J.By c.seen
structure BD (d:Dv):Prop where
 c:∀ c ∈ d.cells,c.By
 w:∀ x ∈ d.done,By x.2
theorem zQx:By blank:=fun x hx=>by rw[List.eq_of_mem_replicate hx]; omega
theorem zNr:By zeros:=fun x hx=>by rw[List.eq_of_mem_replicate hx]; omega
theorem zRt(h:By s)(n:Nat):By (s.take n):=fun x hx=>h x (List.mem_of_mem_take hx)
theorem zvp(h:By s)(n:Nat):By (s.drop n):=fun x hx=>h x (List.mem_of_mem_drop hx)
theorem zwp{l:List Cell}{n:Nat}(h:∀ c ∈ l,c.By):(l.getD n zQa).By:=by
 rw[List.getD_eq_getElem?_getD]
 by_cases hn:n < l.length
 ·rw[List.getElem?_eq_getElem hn]; exact h _ (List.getElem_mem hn)
 ·rw[List.getElem?_eq_none (by omega)]; exact⟨zNr,zNr⟩
theorem zyi{l:List Cell}{i:Nat}{c:Cell}(h:∀ c ∈ l,c.By)(hc:c.By):∀ x ∈ l.set i c,x.By:=by
 intro x hx
 rcases List.mem_or_eq_of_mem_set hx with h'|h'
 ·exact h x h'
 ·rw[h']; exact hc
theorem zRx(h:BD d):BD d.step:=⟨h.c,h.w⟩
theorem zSx(h:BD d):(d.cell a).By:=zwp h.c
theorem zPJ(h:BD d)(hs:By s):BD (d.put a s):=⟨zyi h.c ⟨(zSx h).k,hs⟩,fun x hx=>by
 rcases List.mem_append.1 hx with hx|hx
 ·exact h.w x hx
 ·have:x=(a.toNat,s):=by simpa using hx
  subst this; exact hs⟩
theorem zdJ(h:BD d):BD (d.erase a).1:=by
 unfold Dv.erase
 split
 ·exact h
 split
 ·exact h
 split
 ·exact h
 split
 ·exact zRx h
 ·exact zPJ (d:=d.step.upd a { d.cell a with wear:=(d.cell a).wear+1 }) ⟨zyi h.c ⟨(zSx h).k,(zSx h).s⟩,h.w⟩ zQx
theorem zEE(h:BD d)(hs:By s):BD (d.program a s).1:=by
 unfold Dv.program
 split
 ·exact h
 split
 ·exact h
 split
 ·exact h
 split
 ·exact zRx h
 ·exact zPJ (zRx h) hs
theorem zkw:∀ (l:List (Nat × List Int)) (cs:List Cell),(∀ c ∈ cs,c.By)→(∀ x ∈ l,By x.2)→∀ c ∈ zIa cs l,c.By
 | [],_,h,_=>h
 | x::l,cs,h,hl=>zkw l (zXu cs x) (zyi h ⟨hl x List.mem_cons_self,(zwp h).s⟩) fun y hy=>hl y (List.mem_cons_of_mem _ hy)
theorem zlw:∀ (l:List ((Nat × List Int) × Int)) (cs:List Cell),(∀ c ∈ cs,c.By)→(∀ x ∈ l,By x.1.2)→∀ c ∈ znb cs l,c.By
 | [],_,h,_=>h
 | x::l,cs,h,hl=>zlw l (zrp cs x.1 x.2) (zyi h ⟨By.app' (zRt (hl x List.mem_cons_self) _) (zvp (zwp h).k _),(zwp h).s⟩) fun y hy=>hl y (List.mem_cons_of_mem _ hy)
theorem zcA:∀ (l:List (Nat × List Int)) (cs:List Cell),(∀ c ∈ cs,c.By)→∀ c ∈ zYb cs l,c.By
 | [],_,h=>h
 | x::l,cs,h=>zcA l (zHA cs x) (zyi h ⟨(zwp h).k,(zwp h).k⟩)
theorem zVG(h:BD d):BD d.sync.1:=by
 unfold Dv.sync
 split
 ·exact h
 split
 ·exact zRx h
 ·exact⟨zkw _ _ h.c h.w,fun x hx=>by cases hx⟩
theorem zFE(h:BD d)(ks:List Int):BD (d.restart ks):=⟨zcA _ _ (zlw _ _ h.c fun x hx=>h.w x.1 (List.of_mem_zip hx).1),fun x hx=>by cases hx⟩
theorem zCM{n:Nat}{w:Int}:BD (Dv.new n w):=⟨fun c hc=>by rw[(List.mem_replicate.1 hc).2]; exact⟨zQx,zQx⟩,fun x hx=>by cases hx⟩
theorem zWG{o:Op}{e:Int}(h:BD m.d):BD (m.note o e).d:=by rw[Mp.note_d]; exact h
theorem zdA(h:BD m.d):BD (m.erase part pos).1.d:=by
 unfold Mp.erase
 split
 ·exact h
 ·exact zWG (m:={ m with d:=_ }) (zdJ h)
theorem zSt(h:BD m.d)(hs:By s):BD (m.program part pos s).1.d:=by
 unfold Mp.program
 split
 ·exact h
 ·exact zWG (m:={ m with d:=_ }) (zEE h hs)
theorem zTx:∀ (n y:Nat) (m:Mp),BD m.d→BD (Mp.wipeN part n y m).1.d
 | 0,_,m,h=>h
 | n+1,y,m,h=>by
  rw[Mp.wipeN_succ]
  split
  ·exact zTx n (y+1) m h
  split
  ·exact zdA h
  ·exact zTx n (y+1) _ (zdA h)
theorem zXG(h:BD m.d):BD (m.wipe part).1.d:=by
 unfold Mp.wipe
 split
 ·exact h
 ·exact zTx _ _ _ h
theorem zFk:∀ (l:List (List Int)) (a:Int) (m:Mp),BD m.d→(∀ s ∈ l,By s)→BD (zDc b a l m).1.d
 | [],_,m,h,_=>zVG h
 | s::r,a,m,h,hs=>by
  rw[zie]
  split
  ·exact zSt h (hs s List.mem_cons_self)
  ·exact zFk r _ _ (zSt h (hs s List.mem_cons_self)) fun x hx=>hs x (List.mem_cons_of_mem _ hx)
theorem zcL(h:By s):By (zRB s):=by
 refine By.app' h (By.app' (fun x hx=>?_) (fun x hx=>?_))
 ·rw[List.eq_of_mem_replicate hx]; omega
 ·have:x=0:=by simpa using hx
  omega
theorem zUx{kind seq:Nat}(hk:kind < 256)(hb:By body):∀ s ∈ zih kind seq body,By s:=by
 intro s hs
 unfold zih at hs
 split at hs
 ·cases hs
 ·obtain⟨i,_,rfl⟩:=List.mem_map.1 hs
  exact zcL (zRt (zvp (By.app' (zIx hk hb) (zAD _ _)) _) _)
theorem zeJ(h:BD m.d)(hb:By body):BD (zXc t m body).2.1.d:=by
 unfold zXc
 split
 ·exact h
 simp only
 split
 ·exact zXG h
 have h2:∀ p,BD ((m.wipe p).1.sync).1.d:=fun p=>zVG (zXG h)
 split
 ·exact h2 _
 split
 ·exact zFk _ _ _ (h2 _) (zUx (by omega) hb)
 ·exact zFk _ _ _ (h2 _) (zUx (by omega) hb)
theorem zYG(h:BD m.d)(hb:By body):BD (zkb t m body).2.1.d:=by
 unfold zkb
 split
 ·exact h
 simp only
 split
 ·exact h
 split
 ·exact zFk _ _ _ h (zUx (by omega) hb)
 ·exact zFk _ _ _ h (zUx (by omega) hb)
theorem zGk(h:BD m.d):∀ s ∈ m.secs part,By s:=by
 intro s hs
 obtain⟨y,_,rfl⟩:=List.mem_map.1 hs
 unfold Mp.read
 split
 ·exact zNr
 ·unfold Dv.read
  split
  ·exact (zSx h).s
  ·exact zNr
structure Use (A B k:Nat) (t:Jn) (m:Mp):Prop where
 wd:Wd m A B k
 ok:m.Ok
 jok:t.Ok
 jab:Jab t
 sm:m.Sm (5000 * k)
 bd:BD m.d
 lk:t.last≤k
 bit:Bit t.now
structure Dn (A B k:Nat) (t:Jn) (m:Mp) (poss:List (List (List Int))):Prop where
 dn:m.d.down=true
 wt:Wt m.d
 nr:t.ready=false
 nw:∀ d',Anew m.d d'→∃ i F last now',now' ∈ poss∧Jst d' A B i F last now'∧last≤k
def HInv(A B k:Nat)(t:Jn)(m:Mp)(now:List (List Int))(maybe:List (List (List Int))):Prop:=Use A B k t m∧((Up t m A B now∧maybe=[])∨Dn A B k t m (now::maybe))
theorem Wd.mono{k':Nat}(h:Wd m A B k)(hk:k≤k'):Wd m A B k':=⟨h.two,fun j=>by have:=h.wear j; omega,h.most⟩
theorem Use.mono{k':Nat}(h:Use A B k t m)(hk:k≤k'):Use A B k' t m:=⟨h.wd.mono hk,h.ok,h.jok,h.jab,h.sm.mono (by omega),h.bd,by have:=h.lk; omega,h.bit⟩
theorem Dn.mono{k':Nat}{p:List (List (List Int))}(h:Dn A B k t m p)(hk:k≤k'):Dn A B k' t m p:=⟨h.dn,h.wt,h.nr,fun d' ha=>by
 obtain⟨i,F,last,now',h1,h2,h3⟩:=h.nw d' ha
 exact⟨i,F,last,now',h1,h2,by omega⟩⟩
theorem Dn.more{p q:List (List (List Int))}(h:Dn A B k t m p)(hk:∀ x ∈ p,x ∈ q):Dn A B k t m q:=⟨h.dn,h.wt,h.nr,fun d' ha=>by
 obtain⟨i,F,last,now',h1,h2,h3⟩:=h.nw d' ha
 exact⟨i,F,last,now',hk _ h1,h2,h3⟩⟩
theorem HInv.mono{k':Nat}{now:List (List Int)}{maybe:List (List (List Int))}(h:HInv A B k t m now maybe)(hk:k≤k'):HInv A B k' t m now maybe:=⟨h.1.mono hk,by
 rcases h.2 with h2|h2
 ·exact .inl h2
 ·exact .inr (h2.mono hk)⟩
theorem zdL(h:∀ s ∈ ss,By s):By (zPd ss).body:=by
 unfold zPd
 match ss,h with
 | [],h=>exact fun x hx=>by cases hx
 | s::r,h=>
  simp only
  split
  ·exact fun x hx=>by cases hx
  split
  ·exact fun x hx=>by cases hx
  ·show By (zAk (s::r) s)
   unfold zAk
   refine zRt (zvp ?_ _) _
   intro x hx
   unfold zZg at hx
   obtain⟨y,hy,hx⟩:=List.mem_flatMap.1 hx
   exact h y (List.mem_of_mem_take hy) x (List.mem_of_mem_take hx)
theorem zeL:∀ (n want:Nat) (ss:List (List Int)) (out:Row),(∀ s ∈ ss,By s)→(∀ b ∈ out.bodies,By b)→∀ b ∈ (zTc n want ss out).bodies,By b
 | 0,_,_,out,_,ho=>ho
 | n+1,want,ss,out,hs,ho=>by
  show ∀ b ∈ (if znd want (zPd ss) out then out else zTc n 2 (ss.drop (zPd ss).many) (zcf want (zPd ss) out)).bodies,By b
  split
  ·exact ho
  ·refine zeL n 2 _ _ (fun s hx=>hs s (List.mem_of_mem_drop hx)) ?_
   intro b hb
   have hb:b ∈ out.bodies++[(zPd ss).body]:=hb
   rcases List.mem_append.1 hb with hb|hb
   ·exact ho b hb
   ·have:b=(zPd ss).body:=by simpa using hb
    rw[this]; exact zdL hs
theorem zGD{a b:Int}(h:BD m.d):∀ x ∈ (zvc m a b).bodies,By x:=by
 unfold zvc
 split
 ·exact zeL _ _ _ _ (zGk h) (fun b hb=>by cases hb)
 ·exact zeL _ _ _ _ (zGk h) (fun b hb=>by cases hb)
theorem zZG:∀ (n want:Nat) (ss:List (List Int)) (out:Row),(zTc n want ss out).bodies.length≤out.bodies.length+n
 | 0,_,_,out=>Nat.le_refl _
 | n+1,want,ss,out=>by
  show (if znd want (zPd ss) out then out else zTc n 2 (ss.drop (zPd ss).many) (zcf want (zPd ss) out)).bodies.length≤_
  split
  ·omega
  ·have:=zZG n 2 (ss.drop (zPd ss).many) (zcf want (zPd ss) out)
   have e:(zcf want (zPd ss) out).bodies.length=out.bodies.length+1:=by show (out.bodies++[_]).length=_; simp
   omega
theorem zaH(h2:Two m A B)(hA:A≤30)(hB:B≤30):(zvc m 0 1).bodies.length≤31:=by
 have h:∀ b,Bit b→(zVa (m.secs b)).bodies.length≤31:=fun b hb=>by
  have:=zZG ((m.secs b).length+1) 1 (m.secs b) zOt
  rw[zkj,zFD h2 hb] at this
  have e:siz A B b≤30:=by rcases hb with rfl|rfl <;> assumption
  unfold zVa
  rw[zkj,zFD h2 hb]
  have e0:zOt.bodies.length=0:=rfl
  omega
 unfold zvc
 split
 ·exact h 0 (.inl rfl)
 ·exact h 1 (.inr rfl)
end J
