/- texts of the proof, one behind the other -/
import Derived.Test.YtlkkkfmjfpeooaaGreatDoorUC
set_option linter.unusedSectionVars false
set_option linter.unusedVariables false
set_option linter.unusedSimpArgs false
set_option maxRecDepth 100000
namespace J
open Go Go.Ab
variable{H:Heap}{Γ Γ0 Γ2 Δ G:List (Nat × Blk)}{K:VH}{v w x:Value}{xs ys zs bs b data:List Int}{j p pd pz:Nat}{e:Int}{cs:List Value}
abbrev u64(n:Nat):Value:=zsb .u64 n
theorem zio{t:TypeId}{c:Bool}{a b:Nat}(h:a+b < 18446744073709551616):(zma P .add t c).f (u64 a) (u64 b)=some (u64 (a+b)):=by
 rw[zOc (k:=.u64) rfl,Nat.mod_eq_of_lt (show a+b < szU .u64 from h)]
theorem zzD{t:TypeId}{c:Bool}{a b:Nat}(hb:0 < b)(ha:a < 9223372036854775807):(zma P .quo t c).f (int a) (int b)=some (int ((a / b:Nat):Int)):=by
 rw[zec _ _ rfl]
 show (match eqB (b:Int) 0 with|true=>none|false=>some (Value.int .i64 (zqc .i64 ((a:Int).tdiv b))))=_
 rw[zug,decide_eq_false (by omega)]
 show some (Value.int .i64 (zqc .i64 ((a / b:Nat):Int)))=_
 have h1:((a / b:Nat):Int)≤(a:Int):=Int.ofNat_le.2 (Nat.div_le_self a b)
 have h2:(0:Int)≤((a / b:Nat):Int):=Int.natCast_nonneg _
 generalize ((a / b:Nat):Int)=q at *
 rw[zun (by omega) (by omega)]
theorem zHc{a n:Nat}(ha:a < 4294967296)(hn:0 < n)(hn2:n < 32)(hk:K (u64 (rr a n)) H):wCall P zgb [u64 a,u64 n] H K:=by
 apply zwq; unfold zEp
 have e64:szU .u64=18446744073709551616:=rfl
 have hp:2 ^ (32 - n)≤2 ^ 31:=Nat.pow_le_pow_right (by omega) (by omega)
 have hm:a * 2 ^ (32 - n) < 18446744073709551616:=Nat.lt_of_le_of_lt (Nat.mul_le_mul (Nat.le_of_lt ha) hp) (by decide)
 have hd:a / 2 ^ n < 4294967296:=Nat.lt_of_le_of_lt (Nat.div_le_self _ _) ha
 refine zaa (zzf (k:=.u64) rfl (show n≤64 by omega)) ?_
 refine zaa (v:=u64 (32 - n)) (by rw[show (Value.int .u64 32)=zsb .u64 32 from rfl,zjs rfl (by omega) (by decide)]) ?_
 refine zaa (zLl (k:=.u64) rfl (show 32 - n≤64 by omega)) ?_
 rw[Nat.mod_eq_of_lt (show a * 2 ^ (32 - n) < szU .u64 from hm)]
 refine zaa (znp (k:=.u64) rfl (show _ < 18446744073709551616 by omega) hm) ?_
 refine zaa (zAg (k:=.u64) (b:=4294967296) (by decide)) ?_
 have e:(a / 2 ^ n ||| a * 2 ^ (32 - n)) % 4294967296=rr a n:=by
  unfold rr
  rw[show (4294967296:Nat)=2 ^ 32 from rfl,Nat.or_mod_two_pow,Nat.mod_eq_of_lt (show a / 2 ^ n < 2 ^ 32 from hd)]
 rw[e]; exact hk
def wM(w:List Nat)(n:Nat):List Value:=(w.map fun (n:Nat)=>u64 n)++u64 n::List.replicate (63 - w.length) (u64 0)
def wL(w:List Nat):List Value:=(w.map fun (n:Nat)=>u64 n)++List.replicate (64 - w.length) (u64 0)
theorem zvE{w:List Nat}{n:Nat}(h:w.length≤63):(wM w n).length=64:=by simp[wM]; omega
theorem zNA{w:List Nat}(h:w.length≤63):wM w 0=wL w:=by
 unfold wM wL
 obtain⟨m,hm⟩:∃ m,64 - w.length=m+1:=⟨63 - w.length,by omega⟩
 rw[hm,List.replicate_succ,show 63 - w.length=m by omega]
theorem zOA{w:List Nat}{n:Nat}(h:w.length≤63):wM w n=wL (w++[n]):=by
 unfold wM wL
 rw[List.length_append,show 64 - (w.length+[n].length)=63 - w.length by show 64 - (w.length+1)=_; omega]
 simp
theorem zZI{w:List Nat}{n:Nat}:(wM w n)[w.length]?=some (u64 n):=by
 unfold wM
 rw[List.getElem?_append_right (by simp)]
 simp
theorem zwE{w:List Nat}{n n':Nat}:(wM w n).set w.length (u64 n')=wM w n':=by
 unfold wM
 rw[List.set_append_right _ _ (by simp)]
 simp
theorem zCH{w:List Nat}{i:Nat}(h:i < w.length):(wL w)[i]?=some (u64 (w.getD i 0)):=by
 unfold wL
 rw[List.getElem?_append_left (by simpa using h)]
 simp[h]
theorem zku{w:List Nat}:(wL w).all zSa=true:=by simp[wL,zSa,zGd]
def zlu(b:List Int)(t:Nat):Nat→Nat
 | 0=>0
 | y+1=>256 * zlu b t y+(b.getD (4 * t+y) 0).toNat
theorem zTF{b:List Int}{t:Nat}:zlu b t 4=zgu b t:=by
 show 256 * (256 * (256 * (256 * 0+(b.getD (4 * t+0) 0).toNat)+(b.getD (4 * t+1) 0).toNat)+(b.getD (4 * t+2) 0).toNat)+(b.getD (4 * t+3) 0).toNat=_
 unfold zgu
 rw[Nat.add_zero]
 omega
theorem zfx{b:List Int}(h:∀ x ∈ b,0≤x∧x≤255)(t:Nat):∀ y,zlu b t y < 256 ^ y
 | 0=>Nat.zero_lt_one
 | y+1=>by
  show 256 * zlu b t y+_ < 256 ^ (y+1)
  have h1:=zfx h t y
  have h2:=zYg h (4 * t+y)
  rw[Nat.pow_succ]
  omega
theorem zAD{m i:Nat}(h:i < 64):((data.drop (64 * m)).take 64).getD i 0=data.getD (64 * m+i) 0:=by
 rw[List.getD_eq_getElem?_getD,List.getD_eq_getElem?_getD,List.getElem?_take_of_lt h,List.getElem?_drop]
theorem zWJ{p2 p7 p8 p10 m t:Nat}{ws:List Nat}{Qx:LX}{Qr:LN}(hv:RdB Γ v data)(hb:∀ x ∈ data,0≤x∧x≤255)(hm:64 * m+64≤data.length)(hl:data.length≤1000000000)(ht:t < 16)(hw:ws.length=t)
  (hO:St H (Γ++[(p10,⟨wL ws,true⟩)]))
  (hk:∀ H',St H' (Γ++[(p10,⟨wL (ws++[zgu ((data.drop (64 * m)).take 64) t]),true⟩)])→Qx 8 [ptr p2 0,v,ptr p7 0,ptr p8 0,int ((64 * m:Nat):Int),ptr p10 0,int t] H') :
  zdb P true 252 zsj 3980 [ptr p2 0,v,ptr p7 0,ptr p8 0,int ((64 * m:Nat):Int),ptr p10 0,int t,int 0] H Qx Qr:=by
 have hbb:∀ x ∈ (data.drop (64 * m)).take 64,0≤x∧x≤255:=fun x hx=>hb x (List.mem_of_mem_drop (List.mem_of_mem_take hx))
 rw[← zNA (by omega)] at hO
 refine zYn (fun k l' H'=>∃ (y:Nat),y≤4∧k=4 - y∧l'=[ptr p2 0,v,ptr p7 0,ptr p8 0,int ((64 * m:Nat):Int),ptr p10 0,int t,int y]∧St H' (Γ++[(p10,⟨wM ws (zlu ((data.drop (64 * m)).take 64) t y),true⟩)])) _ _ ?_ 4 _ _ ⟨0,by omega,rfl,rfl,hO⟩
 clear hO
 rintro k l' H ⟨y,hy,rfl,rfl,hO⟩
 unfold zEn
 try simp only[zia,zja]
 refine zaa zIa ?_
 refine zna (fun h=>?_) (fun h=>?_)
 ·have hy4:y < 4:=by omega
  have hp:=zfx hbb t y
  have hp3:256 ^ y≤256 ^ 3:=Nat.pow_le_pow_right (by omega) (by omega)
  have hp4:(256:Nat) ^ 3=16777216:=rfl
  have g:=zYg hb (64 * m+(4 * t+y))
  refine zaa (zqa (by omega) (by omega)) ?_
  rw[Int.toNat_natCast]
  refine zga hO (Γ.length+0) (zua rfl) (v:=u64 (zlu ((data.drop (64 * m)).take 64) t y)) (by rw[show 0+t * 1=ws.length by omega]; exact zZI) ?_
  refine zaa (v:=u64 (256 * zlu ((data.drop (64 * m)).take 64) t y)) (by
   rw[show (Value.int .u64 256)=zsb .u64 256 from rfl,zis (k:=.u64) rfl,Nat.mod_eq_of_lt (show _ < szU .u64 from (show _ < 18446744073709551616 by omega))]) ?_
  refine zaa (v:=int ((4 * t:Nat):Int)) (by rw[zQe (by omega) (by omega)]; congr 2 <;> omega) ?_
  refine zaa (v:=int ((64 * m+4 * t:Nat):Int)) (by rw[zYa (by omega) (by omega)]; congr 2 <;> omega) ?_
  refine zaa (v:=int ((64 * m+(4 * t+y):Nat):Int)) (by rw[zYa (by omega) (by omega)]; congr 2 <;> omega) ?_
  refine zHA hO hv.app hb rfl (by omega) ?_
  refine zCa (cvU (k':=.u64) rfl) ?_
  rw[Nat.mod_eq_of_lt (show (data.getD (64 * m+(4 * t+y)) 0).toNat < szU .u64 from (show _ < 18446744073709551616 by omega))]
  refine zaa (zio (by omega)) ?_
  refine zaa (zqa (by omega) (by omega)) ?_
  rw[Int.toNat_natCast]
  refine zNa hO (Γ.length+0) (zua rfl) rfl (by rw[zvE (by omega)]; omega) (show _=wM ws (zlu ((data.drop (64 * m)).take 64) t (y+1)) from ?_) ?_
  ·rw[show 0+t * 1=ws.length by omega,zwE]
   show _=wM ws (256 * _+_)
   rw[zAD (by omega)]
  clear hO
  intro H hO
  replace hO:=hO.set_r
  repeat (first|refine oi ?_|refine ow ?_|refine wy ?_|refine wn ?_|refine wt ?_|refine wf' ?_|refine cy ?_|refine cn ?_)
  exact⟨4 - (y+1),by omega,y+1,by omega,rfl,rfl,hO⟩
 ·have hy:y=4:=by omega
  subst hy
  rw[zTF,zOA (by omega)] at hO
  exact hk H hO
theorem zDH{x a b:Nat}:zng x [a,b]=rr x a ^^^ rr x b:=by
 show (0 ^^^ rr x a) ^^^ rr x b=_
 rw[Nat.zero_xor]
theorem zEH{x a b c:Nat}:zng x [a,b,c]=(rr x a ^^^ rr x b) ^^^ rr x c:=by
 show ((0 ^^^ rr x a) ^^^ rr x b) ^^^ rr x c=_
 rw[Nat.zero_xor]
theorem zKk{a:Nat}(h:a < 4294967296):a < szU .u64:=Nat.lt_trans h (by decide)
set_option maxHeartbeats 2000000 in
theorem zXJ{p2 p7 p8 p10 m:Nat}{Qx:LX}{Qr:LN}(hv:RdB Γ v data)(hb:∀ x ∈ data,0≤x∧x≤255)(hm:64 * m+64≤data.length)(hl:data.length≤1000000000)
  (hO:St H (Γ++[(p10,⟨wL [],true⟩)]))
  (hk:∀ H',St H' (Γ++[(p10,⟨wL (wUp ((data.drop (64 * m)).take 64) 64),true⟩)])→Qx 6 [ptr p2 0,v,ptr p7 0,ptr p8 0,int ((64 * m:Nat):Int),ptr p10 0] H') :
  zdb P true 252 zrj 1932 [ptr p2 0,v,ptr p7 0,ptr p8 0,int ((64 * m:Nat):Int),ptr p10 0,int 0] H Qx Qr:=by
 have hbb:∀ x ∈ (data.drop (64 * m)).take 64,0≤x∧x≤255:=fun x hx=>hb x (List.mem_of_mem_drop (List.mem_of_mem_take hx))
 refine zVn (fun k l' H'=>∃ (y:Nat),y≤64∧k=64 - y∧l'=[ptr p2 0,v,ptr p7 0,ptr p8 0,int ((64 * m:Nat):Int),ptr p10 0,int y]∧St H' (Γ++[(p10,⟨wL (wUp ((data.drop (64 * m)).take 64) y),true⟩)])) _ _ ?_ 64 _ _ ⟨0,by omega,rfl,rfl,hO⟩
 clear hO
 rintro k l' H ⟨y,hy,rfl,rfl,hO⟩
 unfold zBn
 try simp only[zia,zja]
 have hwl:=zRp (b:=(data.drop (64 * m)).take 64) y
 have es:wUp ((data.drop (64 * m)).take 64) (y+1)=wUp ((data.drop (64 * m)).take 64) y++[zkm ((data.drop (64 * m)).take 64) (wUp ((data.drop (64 * m)).take 64) y) y]:=rfl
 have hlt:∀ i,(wUp ((data.drop (64 * m)).take 64) y).getD i 0 < 4294967296:=getD_lt (ziu hbb y)
 refine zaa zIa ?_
 refine zna (fun h=>?_) (fun h=>?_)
 ·refine zaa zIa ?_
  refine zna (fun h16=>?_) (fun h16=>?_)
  ·refine zWJ hv hb hm hl (by omega) hwl hO ?_
   clear hO
   intro H hO
   refine zKa rfl ?_
   try simp only[zia,zja]
   repeat (first|refine oi ?_|refine ow ?_|refine wy ?_|refine wn ?_|refine wt ?_|refine wf' ?_|refine cy ?_|refine cn ?_)
   refine⟨64 - (y+1),by omega,y+1,by omega,rfl,rfl,?_⟩
   rw[es,show zkm ((data.drop (64 * m)).take 64) (wUp ((data.drop (64 * m)).take 64) y) y=zgu ((data.drop (64 * m)).take 64) y by unfold zkm; rw[if_pos (by omega)]]
   exact hO
  ·generalize hws:wUp ((data.drop (64 * m)).take 64) y=ws at *
   have ld:∀ {i:Nat} {K:VH},i < y→K (u64 (ws.getD i 0)) H→opW (zba (ptr p10 (0+i * 1)) H) K:=fun {i K} hi hk=>zga hO (Γ.length+0) (zua rfl) (v:=u64 (ws.getD i 0)) (by rw[show 0+i * 1=i by omega]; exact zCH (by omega)) hk
   have sm:∀ {o:Nat},zeb (zcb H H) (zJa [ptr p10 o]):=same_at hO (Γ.length+0) (zua rfl) hO (Γ.length+0) (zua rfl) zku
   refine zaa (zub (by omega) (by omega)) ?_
   refine zaa (zqa (by omega) (by omega)) ?_
   rw[show ((y:Int) - 15).toNat=y - 15 by omega]
   refine ld (by omega) ?_
   refine zaa (zub (by omega) (by omega)) ?_
   refine zaa (zqa (by omega) (by omega)) ?_
   rw[show ((y:Int) - 2).toNat=y - 2 by omega]
   refine ld (by omega) ?_
   refine zaa (zub (by omega) (by omega)) ?_
   refine zaa (zqa (by omega) (by omega)) ?_
   rw[show ((y:Int) - 16).toNat=y - 16 by omega]
   refine ld (by omega) ?_
   refine zHc (n:=7) (hlt _) (by omega) (by omega) ?_
   refine⟨sm,?_⟩
   refine zHc (n:=18) (hlt _) (by omega) (by omega) ?_
   refine⟨sm,?_⟩
   have b1:=zho (n:=7) (hlt (y - 15))
   have b2:=zho (n:=18) (hlt (y - 15))
   have b3:=zho (n:=17) (hlt (y - 2))
   have b4:=zho (n:=19) (hlt (y - 2))
   have b5:ws.getD (y - 15) 0 / 2 ^ 3 < 4294967296:=Nat.lt_of_le_of_lt (Nat.div_le_self _ _) (hlt _)
   have b6:ws.getD (y - 2) 0 / 2 ^ 10 < 4294967296:=Nat.lt_of_le_of_lt (Nat.div_le_self _ _) (hlt _)
   refine zaa (zTb (k:=.u64) rfl (zKk b1) (zKk b2)) ?_
   refine zaa (zzf (k:=.u64) (n:=3) rfl (by decide)) ?_
   have b7:=Nat.xor_lt_two_pow (n:=32) b1 b2
   refine zaa (zTb (k:=.u64) rfl (zKk b7) (zKk b5)) ?_
   have b8:=Nat.xor_lt_two_pow (n:=32) b7 b5
   have c1:=hlt (y - 16)
   have c2:=hlt (y - 7)
   refine zaa (zio (by omega)) ?_
   refine zaa (zub (by omega) (by omega)) ?_
   refine zaa (zqa (by omega) (by omega)) ?_
   rw[show ((y:Int) - 7).toNat=y - 7 by omega]
   refine ld (by omega) ?_
   refine⟨sm,sm,?_⟩
   refine zaa (zio (by omega)) ?_
   refine zHc (n:=17) (hlt _) (by omega) (by omega) ?_
   refine⟨sm,sm,?_⟩
   refine zHc (n:=19) (hlt _) (by omega) (by omega) ?_
   refine⟨sm,sm,?_⟩
   refine zaa (zTb (k:=.u64) rfl (zKk b3) (zKk b4)) ?_
   refine zaa (zzf (k:=.u64) (n:=10) rfl (by decide)) ?_
   have b9:=Nat.xor_lt_two_pow (n:=32) b3 b4
   refine zaa (zTb (k:=.u64) rfl (zKk b9) (zKk b6)) ?_
   have b10:=Nat.xor_lt_two_pow (n:=32) b9 b6
   refine zaa (zio (by omega)) ?_
   refine zaa (zAg (k:=.u64) (b:=4294967296) (by decide)) ?_
   refine zaa (zqa (by omega) (by omega)) ?_
   rw[Int.toNat_natCast]
   rw[← zNA (by omega)] at hO
   refine zNa hO (Γ.length+0) (zua rfl) rfl (by rw[zvE (by omega)]; omega) (show _=wL (ws++[zkm ((data.drop (64 * m)).take 64) ws y]) from ?_) ?_
   ·rw[show 0+y * 1=ws.length by omega,zwE,zOA (by omega)]
    unfold zkm
    rw[if_neg (by omega),zDH,zDH]
   clear hO
   intro H hO
   replace hO:=hO.set_r
   rw[← es] at hO
   repeat (first|refine oi ?_|refine ow ?_|refine wy ?_|refine wn ?_|refine wt ?_|refine wf' ?_|refine cy ?_|refine cn ?_)
   exact⟨64 - (y+1),by omega,y+1,by omega,rfl,rfl,hO⟩
 ·have hy:y=64:=by omega
  subst hy
  exact hk H hO
end J
set_option maxRecDepth 100000
namespace J
open Go Go.Ab
variable{H:Heap}{Γ Γ0 Γ2 Δ G:List (Nat × Blk)}{K:VH}{v w x:Value}{xs ys zs bs b data:List Int}{j p pd pz:Nat}{e:Int}{cs:List Value}
def l8(x:W8):List Value:=x.l.map fun (n:Nat)=>u64 n
theorem zPA(x:W8):(l8 x).all zSa=true:=rfl
theorem b8(a b c d e f g h:Int):(zxa P 119).f [(0,.int .u64 a),(1,.int .u64 b),(2,.int .u64 c),(3,.int .u64 d),(4,.int .u64 e),(5,.int .u64 f),(6,.int .u64 g),(7,.int .u64 h)]=some (agg [.int .u64 a,.int .u64 b,.int .u64 c,.int .u64 d,.int .u64 e,.int .u64 f,.int .u64 g,.int .u64 h]):=by kernel_rfl
theorem zaJ{i:Nat}(h:i < 64):(zpk.map fun (n:Nat)=>u64 n)[i]?=some (u64 (zpk.getD i 0)):=by
 have hl:zpk.length=64:=rfl
 simp[hl,h]
theorem zQA:(zpk.map fun (n:Nat)=>u64 n).all zSa=true:=by simp[zSa,zGd]
theorem zUF{t:TypeId}{c:Bool}{a:Nat}:(zma P .rem t c).f (u64 a) (.int .u64 4294967296)=some (u64 (a % 4294967296)):=zAg (k:=.u64) (b:=4294967296) (by decide)
set_option maxHeartbeats 4000000 in
theorem zYJ{p2 p7 p8 p10 p15 at':Nat}{s:W8}{ws:List Nat}{Qx:LX}{Qr:LN}(hs:s.Ok)(hw:∀ x ∈ ws,x < 4294967296)(hwl:ws.length=64){j8 j10:Nat}(h8:Γ[j8]?=some (p8,⟨zpk.map fun (n:Nat)=>u64 n,true⟩))(h10:Γ[j10]?=some (p10,⟨wL ws,true⟩))
  (hO:St H (Γ++[(p15,⟨l8 s,true⟩)]))
  (hk:∀ H',St H' (Γ++[(p15,⟨l8 (zKv ws s 64),true⟩)])→Qx 10 [ptr p2 0,v,ptr p7 0,ptr p8 0,int at',ptr p15 0] H') :
  zdb P true 252 ztj 33676 [ptr p2 0,v,ptr p7 0,ptr p8 0,int at',ptr p10 0,ptr p15 0,int 0] H Qx Qr:=by
 refine zWn (fun k l' H'=>∃ (y:Nat),y≤64∧k=64 - y∧l'=[ptr p2 0,v,ptr p7 0,ptr p8 0,int at',ptr p10 0,ptr p15 0,int y]∧St H' (Γ++[(p15,⟨l8 (zKv ws s y),true⟩)])) _ _ ?_ 64 _ _ ⟨0,by omega,rfl,rfl,hO⟩
 clear hO
 rintro k l' H ⟨y,hy,rfl,rfl,hO⟩
 unfold zCn
 try simp only[zia,zja]
 refine zaa zIa ?_
 refine zna (fun h=>?_) (fun h=>?_)
 rotate_left
 ·have ey:y=64:=by omega
  subst ey
  exact hk _ hO
 have hxo:=zQp (w:=ws) hs y
 have ew:ws.getD y 0 < 4294967296:=getD_lt hw y
 have ek:=zXI y
 have er:zKv ws s (y+1)=zoH (zKv ws s y) (zpk.getD y 0) (ws.getD y 0):=rfl
 generalize zKv ws s y=x at *
 have i15:(Γ++[(p15,(⟨l8 x,true⟩:Blk))])[Γ.length+0]?=some (p15,⟨l8 x,true⟩):=zua rfl
 have sm:∀ {o:Nat},zeb (zcb H H) (zJa [ptr p15 o]):=same_at hO _ i15 hO _ i15 (zPA x)
 have sm8:∀ {o:Nat},zeb (zcb H H) (zJa [ptr p8 o]):=same_at hO _ (zwa h8) hO _ (zwa h8) zQA
 have sm10:∀ {o:Nat},zeb (zcb H H) (zJa [ptr p10 o]):=same_at hO _ (zwa h10) hO _ (zwa h10) zku
 have ix:∀ {i:Int} {h:0≤i} {h':i < 8},True:=trivial
 refine zaa (zqa (by omega) (by omega)) ?_
 refine zga hO _ i15 (v:=u64 x.e) rfl ?_
 refine zaa (zqa (by omega) (by omega)) ?_
 refine zga hO _ i15 (v:=u64 x.f) rfl ?_
 refine zaa (zie (k:=.u64) rfl (zKk hxo.e) (zKk hxo.f)) ?_
 refine zaa (v:=u64 (4294967295 - x.e)) (by
  have:=hxo.e
  rw[show (Value.int .u64 4294967295)=zsb .u64 4294967295 from rfl,zjs rfl (by omega) (by decide)]) ?_
 refine zaa (zqa (by omega) (by omega)) ?_
 refine zga hO _ i15 (v:=u64 x.g) rfl ?_
 refine zaa (zie (k:=.u64) rfl (zKk (by omega)) (zKk hxo.g)) ?_
 refine zaa (zTb (k:=.u64) rfl (zKk (Nat.and_lt_two_pow (n:=32) _ hxo.f)) (zKk (Nat.and_lt_two_pow (n:=32) _ hxo.g))) ?_
 have hch:chF x.e x.f x.g < 4294967296:=zpH hxo.e hxo.f hxo.g
 rw[show (x.e &&& x.f) ^^^ ((4294967295 - x.e) &&& x.g)=chF x.e x.f x.g from rfl]
 refine zaa (zqa (by omega) (by omega)) ?_
 refine zga hO _ i15 (v:=u64 x.h) rfl ?_
 have b6:=zho (n:=6) hxo.e
 have b11:=zho (n:=11) hxo.e
 have b25:=zho (n:=25) hxo.e
 have b2:=zho (n:=2) hxo.a
 have b13:=zho (n:=13) hxo.a
 have b22:=zho (n:=22) hxo.a
 refine zHc (n:=6) hxo.e (by omega) (by omega) ?_
 refine⟨sm,?_⟩
 refine zHc (n:=11) hxo.e (by omega) (by omega) ?_
 refine⟨sm,?_⟩
 refine zaa (zTb (k:=.u64) rfl (zKk b6) (zKk b11)) ?_
 refine zHc (n:=25) hxo.e (by omega) (by omega) ?_
 refine⟨sm,?_⟩
 refine zaa (zTb (k:=.u64) rfl (zKk (Nat.xor_lt_two_pow (n:=32) b6 b11)) (zKk b25)) ?_
 rw[← zEH]
 have hS1:zng x.e [6,11,25] < 4294967296:=zlm hxo.e
 have hh:=hxo.h
 refine zaa (zio (by omega)) ?_
 refine zaa (zio (by omega)) ?_
 refine zaa (zqa (by omega) (by omega)) ?_
 rw[Int.toNat_natCast]
 refine zga hO _ (zwa h8) (v:=u64 (zpk.getD y 0)) (by rw[show 0+y * 1=y by omega]; exact zaJ (by omega)) ?_
 refine⟨sm8,sm8,sm8,?_⟩
 refine zaa (zio (by omega)) ?_
 refine zaa (zqa (by omega) (by omega)) ?_
 rw[Int.toNat_natCast]
 refine zga hO _ (zwa h10) (v:=u64 (ws.getD y 0)) (by rw[show 0+y * 1=y by omega]; exact zCH (by omega)) ?_
 refine⟨sm10,sm10,sm10,?_⟩
 refine zaa (zio (by omega)) ?_
 refine zaa (zqa (by omega) (by omega)) ?_
 refine zga hO _ i15 (v:=u64 x.a) rfl ?_
 refine zaa (zqa (by omega) (by omega)) ?_
 refine zga hO _ i15 (v:=u64 x.b) rfl ?_
 refine zaa (zie (k:=.u64) rfl (zKk hxo.a) (zKk hxo.b)) ?_
 refine zaa (zqa (by omega) (by omega)) ?_
 refine zga hO _ i15 (v:=u64 x.a) rfl ?_
 refine zaa (zqa (by omega) (by omega)) ?_
 refine zga hO _ i15 (v:=u64 x.c) rfl ?_
 refine zaa (zie (k:=.u64) rfl (zKk hxo.a) (zKk hxo.c)) ?_
 have ab:=Nat.and_lt_two_pow (n:=32) x.a hxo.b
 have ac:=Nat.and_lt_two_pow (n:=32) x.a hxo.c
 have bc:=Nat.and_lt_two_pow (n:=32) x.b hxo.c
 refine zaa (zTb (k:=.u64) rfl (zKk ab) (zKk ac)) ?_
 refine zaa (zqa (by omega) (by omega)) ?_
 refine zga hO _ i15 (v:=u64 x.b) rfl ?_
 refine zaa (zqa (by omega) (by omega)) ?_
 refine zga hO _ i15 (v:=u64 x.c) rfl ?_
 refine zaa (zie (k:=.u64) rfl (zKk hxo.b) (zKk hxo.c)) ?_
 refine zaa (zTb (k:=.u64) rfl (zKk (Nat.xor_lt_two_pow (n:=32) ab ac)) (zKk bc)) ?_
 rw[show ((x.a &&& x.b) ^^^ (x.a &&& x.c)) ^^^ (x.b &&& x.c)=zBF x.a x.b x.c from rfl]
 have hmj:zBF x.a x.b x.c < 4294967296:=zEF hxo.b hxo.c
 refine zaa (zqa (by omega) (by omega)) ?_
 refine zga hO _ i15 (v:=u64 x.a) rfl ?_
 refine zHc (n:=2) hxo.a (by omega) (by omega) ?_
 refine zaa (zqa (by omega) (by omega)) ?_
 refine zga hO _ i15 (v:=u64 x.a) rfl ?_
 refine⟨sm,?_⟩
 refine zHc (n:=13) hxo.a (by omega) (by omega) ?_
 refine zaa (zTb (k:=.u64) rfl (zKk b2) (zKk b13)) ?_
 refine zaa (zqa (by omega) (by omega)) ?_
 refine zga hO _ i15 (v:=u64 x.a) rfl ?_
 refine⟨sm,sm,?_⟩
 refine zHc (n:=22) hxo.a (by omega) (by omega) ?_
 refine zaa (zTb (k:=.u64) rfl (zKk (Nat.xor_lt_two_pow (n:=32) b2 b13)) (zKk b22)) ?_
 rw[← zEH]
 have hS0:zng x.a [2,13,22] < 4294967296:=zlm hxo.a
 have hd:=hxo.d
 refine zaa (zio (by omega)) ?_
 refine zaa (zio (by omega)) ?_
 refine zaa zUF ?_
 refine zaa (zqa (by omega) (by omega)) ?_
 refine zga hO _ i15 (v:=u64 x.a) rfl ?_
 refine zaa (zqa (by omega) (by omega)) ?_
 refine zga hO _ i15 (v:=u64 x.b) rfl ?_
 refine zaa (zqa (by omega) (by omega)) ?_
 refine zga hO _ i15 (v:=u64 x.c) rfl ?_
 refine zaa (zqa (by omega) (by omega)) ?_
 refine zga hO _ i15 (v:=u64 x.d) rfl ?_
 refine zaa (zio (by omega)) ?_
 refine zaa zUF ?_
 refine zaa (zqa (by omega) (by omega)) ?_
 refine zga hO _ i15 (v:=u64 x.e) rfl ?_
 refine zaa (zqa (by omega) (by omega)) ?_
 refine zga hO _ i15 (v:=u64 x.f) rfl ?_
 refine zaa (zqa (by omega) (by omega)) ?_
 refine zga hO _ i15 (v:=u64 x.g) rfl ?_
 refine zaa (b8 _ _ _ _ _ _ _ _) ?_
 refine zra hO _ i15 rfl rfl rfl ?_
 clear hO sm sm8 sm10
 intro H hO
 replace hO:=hO.set_r
 have e1:(x.h+zng x.e [6,11,25]+chF x.e x.f x.g+zpk.getD y 0+ws.getD y 0+(zng x.a [2,13,22]+zBF x.a x.b x.c)) % 4294967296=(t1F x (zpk.getD y 0) (ws.getD y 0)+t2F x) % 4294967296:=by
  unfold t1F t2F
  rw[← Nat.add_mod]
 have e2:(x.d+(x.h+zng x.e [6,11,25]+chF x.e x.f x.g+zpk.getD y 0+ws.getD y 0)) % 4294967296=(x.d+t1F x (zpk.getD y 0) (ws.getD y 0)) % 4294967296:=by
  unfold t1F
  rw[Nat.add_mod_mod]
 rw[e1,e2] at hO
 repeat (first|refine oi ?_|refine ow ?_|refine wy ?_|refine wn ?_|refine wt ?_|refine wf' ?_|refine cy ?_|refine cn ?_)
 refine⟨64 - (y+1),by omega,y+1,by omega,rfl,rfl,?_⟩
 rw[er]
 exact hO
end J
set_option maxRecDepth 100000
namespace J
open Go Go.Ab
variable{H:Heap}{Γ Γ0 Γ2 Δ G:List (Nat × Blk)}{K:VH}{v w x:Value}{xs ys zs bs b data:List Int}{j p pd pz:Nat}{e:Int}{cs:List Value}
theorem zZJ:(zxa P 121).f []=some (agg (wL [])):=by kernel_rfl
theorem zVF:zc P 121=wL []:=by kernel_rfl
theorem zbJ:zc P 119=List.replicate 8 (u64 0):=by kernel_rfl
theorem zny(hO:St H Γ)(hk:∀ H',St H' Γ→K (agg (l8 zDF)) H'):wCall P zYh [] H K:=by
 apply zvq; unfold zCp
 rw[zbJ]
 refine zHa hO ?_
 clear hO
 intro p H hO
 refine zaa (v:=agg (l8 zDF)) (by kernel_rfl) ?_
 refine zra hO (Γ.length+0) (zua rfl) rfl rfl rfl ?_
 clear hO
 intro H hO
 replace hO:=hO.set_r
 refine zta hO (Γ.length+0) (zua rfl) rfl (by omega) ?_
 exact hk _ hO.left
theorem zPv(hO:St H Γ)(hk:∀ H',St H' Γ→K (agg (zpk.map fun (n:Nat)=>u64 n)) H'):wCall P zSg [] H K:=by
 apply zDp; unfold zHn
 rw[zVF]
 refine zHa hO ?_
 clear hO
 intro p H hO
 refine zaa (v:=agg (zpk.map fun (n:Nat)=>u64 n)) (by kernel_rfl) ?_
 refine zra hO (Γ.length+0) (zua rfl) rfl rfl rfl ?_
 clear hO
 intro H hO
 replace hO:=hO.set_r
 refine zta hO (Γ.length+0) (zua rfl) rfl (by omega) ?_
 exact hk _ hO.left
theorem zFH{s:W8}(h:s.Ok):∀ x ∈ s.l,x < 4294967296:=by
 intro x hx
 simp only[W8.l,List.mem_cons,List.not_mem_nil,or_false] at hx
 rcases hx with rfl|rfl|rfl|rfl|rfl|rfl|rfl|rfl
 ·exact h.a
 ·exact h.b
 ·exact h.c
 ·exact h.d
 ·exact h.e
 ·exact h.f
 ·exact h.g
 ·exact h.h
theorem zaK{s R:W8}{p2 p7 p8 p15 at':Nat}{B:Blk}{T:List (Nat × Blk)}{Qx:LX}{Qr:LN}(hs:s.Ok)(hR:R.Ok)(i15:T[1]?=some (p15,⟨l8 R,true⟩))
  (hO:St H (Γ++([(p7,⟨l8 s,true⟩),(p8,B)]++T)))
  (hk:∀ H',St H' (Γ++([(p7,⟨l8 (zEG s R),true⟩),(p8,B)]++T))→Qx 12 [ptr p2 0,v,ptr p7 0,ptr p8 0,int at'] H') :
  zdb P true 252 zuj 908 [ptr p2 0,v,ptr p7 0,ptr p8 0,int at',ptr p15 0,int 0] H Qx Qr:=by
 refine zXn (fun k l' H'=>∃ (y:Nat),y≤8∧k=8 - y∧l'=[ptr p2 0,v,ptr p7 0,ptr p8 0,int at',ptr p15 0,int y]∧St H' (Γ++([(p7,⟨(zOv s.l R.l y).map fun (n:Nat)=>u64 n,true⟩),(p8,B)]++T))) _ _ ?_ 8 _ _ ⟨0,by omega,rfl,rfl,hO⟩
 clear hO
 rintro k l' H ⟨y,hy,rfl,rfl,hO⟩
 unfold zDn
 try simp only[zia,zja]
 have hls:s.l.length=8:=rfl
 have hlR:R.l.length=8:=rfl
 refine zaa zIa ?_
 refine zna (fun h=>?_) (fun h=>?_)
 ·have hy8:y < 8:=by omega
  have b1:s.l.getD y 0 < 4294967296:=getD_lt (zFH hs) y
  have b2:R.l.getD y 0 < 4294967296:=getD_lt (zFH hR) y
  have a1:((zOv s.l R.l y).map fun (n:Nat)=>u64 n)[0+y * 1]?=some (u64 (s.l.getD y 0)):=by
   rw[show 0+y * 1=y by omega,List.getElem?_map,zFs (by omega),if_neg (by omega)]; rfl
  have a2:(l8 R)[0+y * 1]?=some (u64 (R.l.getD y 0)):=by
   unfold l8
   rw[show 0+y * 1=y by omega,List.getElem?_map,List.getElem?_eq_getElem (by omega),List.getD_eq_getElem?_getD,List.getElem?_eq_getElem (by omega)]; rfl
  have a3:((zOv s.l R.l y).map fun (n:Nat)=>u64 n).set (0+y * 1) (u64 ((s.l.getD y 0+R.l.getD y 0) % 4294967296))=(zOv s.l R.l (y+1)).map fun (n:Nat)=>u64 n:=by
   rw[← zbx (by omega),List.map_set,show 0+y * 1=y by omega]
  refine zaa (zqa (by omega) (by omega)) ?_
  rw[Int.toNat_natCast]
  refine zga hO (Γ.length+0) (zua rfl) a1 ?_
  refine zaa (zqa (by omega) (by omega)) ?_
  rw[Int.toNat_natCast]
  refine zga hO (Γ.length+(2+1)) (zua (zua (Γ:=[_,_]) i15)) a2 ?_
  refine zaa (zio (by omega)) ?_
  refine zaa zUF ?_
  refine zaa (zqa (by omega) (by omega)) ?_
  rw[Int.toNat_natCast]
  refine zNa hO (Γ.length+0) (zua rfl) rfl (zJA a1) a3 ?_
  clear hO
  intro H hO
  replace hO:=hO.set_r
  repeat (first|refine oi ?_|refine ow ?_|refine wy ?_|refine wn ?_|refine wt ?_|refine wf' ?_|refine cy ?_|refine cn ?_)
  exact⟨_,by omega,y+1,by omega,rfl,rfl,hO⟩
 ·have ey:y=8:=by omega
  subst ey
  rw[zsE] at hO
  exact hk _ hO
theorem zbK{s:W8}{p2 p7 p23:Nat}{T:List (Nat × Blk)}{Qx:LX}{Qr:LN}(hs:s.Ok){j7:Nat}(h7:Γ[j7]?=some (p7,⟨l8 s,true⟩))(hO:St H (Γ++[(p23,⟨zoq [],true⟩)]))
  (hk:∀ H',St H' (Γ++[(p23,⟨by8 (zog s),true⟩)])→Qx 14 [ptr p2 0,ptr p23 0] H') :
  zdb P true 252 zvj 8388612 [ptr p2 0,ptr p7 0,ptr p23 0,int 0] H Qx Qr:=by
 refine zUn (fun k l' H'=>∃ (y:Nat),y≤32∧k=32 - y∧l'=[ptr p2 0,ptr p7 0,ptr p23 0,int y]∧St H' (Γ++[(p23,⟨zoq ((zog s).take y),true⟩)])) _ _ ?_ 32 _ _ ⟨0,by omega,rfl,rfl,hO⟩
 clear hO
 rintro k l' H ⟨y,hy,rfl,rfl,hO⟩
 unfold zAn
 try simp only[zia,zja]
 refine zaa zIa ?_
 refine zna (fun h=>?_) (fun h=>?_)
 ·have hlen:((zog s).take y).length=y:=by rw[List.length_take,zHh]; omega
  have hm:y / 4 < 8:=by omega
  have hi:y % 4 < 4:=by omega
  have a2:(l8 s)[0+y / 4 * 1]?=some (u64 (s.l.getD (y / 4) 0)):=by
   have hlR:s.l.length=8:=rfl
   unfold l8
   rw[show 0+y / 4 * 1=y / 4 by omega,List.getElem?_map,List.getElem?_eq_getElem (by omega),List.getD_eq_getElem?_getD,List.getElem?_eq_getElem (by omega)]; rfl
  refine zaa (zzD (b:=4) (by omega) (by omega)) ?_
  refine zaa (zqa (by omega) (by omega)) ?_
  rw[Int.toNat_natCast]
  refine zga hO j7 (zwa h7) a2 ?_
  refine zaa (v:=int ((y % 4:Nat):Int)) (zAg (k:=.i64) (b:=4) (by decide)) ?_
  refine zaa (v:=int ((8 * (y % 4):Nat):Int)) (by rw[zQe (by omega) (by omega)]; congr 2 <;> omega) ?_
  refine zaa (v:=int ((24 - 8 * (y % 4):Nat):Int)) (by rw[zub (by omega) (by omega)]; congr 2 <;> omega) ?_
  refine zaa (zzf (k:=.u64) rfl (show 24 - 8 * (y % 4)≤64 by omega)) ?_
  refine zaa (zAg (k:=.u64) (b:=256) (by decide)) ?_
  refine zCa (cvU (k':=.u8) rfl) ?_
  refine zaa (zqa (by omega) (by omega)) ?_
  rw[Int.toNat_natCast]
  refine zNa hO (Γ.length+0) (zua rfl) rfl (show 0+y * 1 < (zoq ((zog s).take y)).length by rw[zcx (by omega)]; omega) (show _=zoq ((zog s).take (y+1)) from ?_) ?_
  ·have h1:=hash_step (s:=s) hm hi
   rw[show 4 * (y / 4)+y % 4=y by omega] at h1
   rw[← h1,← zdx (by omega),hlen,show 0+y * 1=y by omega]
   rw[show szU .u8=256 from rfl,Nat.mod_mod]
  clear hO
  intro H hO
  replace hO:=hO.set_r
  repeat (first|refine oi ?_|refine ow ?_|refine wy ?_|refine wn ?_|refine wt ?_|refine wf' ?_|refine cy ?_|refine cn ?_)
  exact⟨32 - (y+1),by omega,y+1,by omega,rfl,rfl,hO⟩
 ·have hy:y=32:=by omega
  subst hy
  have e:zoq ((zog s).take 32)=by8 (zog s):=by
   rw[List.take_of_length_le (by rw[zHh]; omega)]
   unfold zoq
   rw[zHh,Nat.sub_self,List.replicate_zero,List.append_nil]
  rw[e] at hO
  exact hk H hO
theorem zcK{t0:Value}{p2:Nat}{Qx:LX}{Qr:LN}(hO:St H (Γ++zhb v cs))(hv:OwnB v (xs++[128]) cs)(hl:xs.length≤90000000)
  (hk:∀ H' v' cs',St H' (Γ++zhb v' cs')→OwnB v' (xs++[128]++List.replicate (zcn xs.length) 0) cs'→Qx 0 [t0,ptr p2 0,v'] H') :
  zdb P true 252 zoj 13 [t0,ptr p2 0,v] H Qx Qr:=by
 refine zRn (fun k l' H'=>∃ (y:Nat) (v:Value) (cs:List Value),y≤zcn xs.length∧k=zcn xs.length - y∧l'=[t0,ptr p2 0,v]∧St H' (Γ++zhb v cs)∧OwnB v (xs++[128]++List.replicate y 0) cs) _ _ ?_ (zcn xs.length) _ _ ⟨0,v,cs,by omega,rfl,rfl,hO,by rw[List.replicate_zero,List.append_nil]; exact hv⟩
 clear hO hv
 rintro k l' H ⟨y,v,cs,hy,rfl,rfl,hO,hv⟩
 unfold zxn
 try simp only[zia,zja]
 have hlen:(xs++[128]++List.replicate y (0:Int)).length=xs.length+1+y:=by simp; omega
 have hpz:zcn xs.length < 64:=Nat.mod_lt _ (by decide)
 refine zCa hv.lenSl ?_
 refine zaa (v:=int (((xs++[128]++List.replicate y (0:Int)).length % 64:Nat):Int)) (zAg (k:=.i64) (b:=64) (by decide)) ?_
 rw[hlen]
 refine zaa zGb ?_
 refine zna (fun h=>?_) (fun h=>?_)
 ·have hlt:y < zcn xs.length:=by
   unfold zcn at hy ⊢
   omega
  refine zbb hO (zFG 0 _) ?_
  clear hO
  intro q H hO
  refine zPm (ys:=[0]) hO hv (by rw[hlen]; simp; omega) rfl (.inr rfl) ?_
  clear hO hv
  intro H v cs hO hv
  rw[List.append_assoc _ (List.replicate y 0),← List.replicate_succ'] at hv
  exact⟨zcn xs.length - (y+1),by omega,y+1,v,cs,by omega,rfl,rfl,hO,hv⟩
 ·have hy:y=zcn xs.length:=by
   unfold zcn at hy ⊢
   omega
  subst hy
  exact hk H v cs hO hv
theorem zGH:∀ y,y < 8→72057594037927936 / 256 ^ y=2 ^ (56 - 8 * y):=by decide
theorem zdK{p2 n:Nat}{Qx:LX}{Qr:LN}(hO:St H (Γ++zhb v cs))(hv:OwnB v zs cs)(hl:zs.length≤95000000)(hn:n < 18446744073709551616)
  (hk:∀ H' v' cs',St H' (Γ++zhb v' cs')→OwnB v' (zs++be8 n) cs'→Qx 2 [ptr p2 0,v'] H') :
  zdb P true 252 zpj 12 [ptr p2 0,v,zsb .u64 n,.int .u64 72057594037927936,int 0] H Qx Qr:=by
 refine zSn (fun k l' H'=>∃ (y:Nat) (v:Value) (cs:List Value),y≤8∧k=8 - y∧l'=[ptr p2 0,v,zsb .u64 n,zsb .u64 (72057594037927936 / 256 ^ y),int y]∧St H' (Γ++zhb v cs)∧OwnB v (zs++(be8 n).take y) cs) _ _ ?_ 8 _ _ ⟨0,v,cs,by omega,rfl,rfl,hO,by rw[List.take_zero,List.append_nil]; exact hv⟩
 clear hO hv
 rintro k l' H ⟨y,v,cs,hy,rfl,rfl,hO,hv⟩
 unfold zyn
 try simp only[zia,zja]
 refine zaa zIa ?_
 refine zna (fun h=>?_) (fun h=>?_)
 ·have hy8:y < 8:=by omega
  have hf:=zGH y hy8
  have hp:0 < 2 ^ (56 - 8 * y):=Nat.two_pow_pos _
  refine zaa (zNw (k:=.u64) rfl (by rw[hf]; exact hp) hn) ?_
  rw[hf]
  refine zaa (zAg (k:=.u64) (b:=256) (by decide)) ?_
  refine zCa (cvU (k':=.u8) rfl) ?_
  rw[show szU .u8=256 from rfl,Nat.mod_mod]
  refine zbb hO (zFG _ _) ?_
  clear hO
  intro q H hO
  refine zPm (ys:=[((n / 2 ^ (56 - 8 * y) % 256:Nat):Int)]) hO hv (by rw[List.length_append,List.length_take]; simp; omega) rfl (.inr rfl) ?_
  clear hO hv
  intro H v cs hO hv
  have e:(be8 n).take y++[((n / 2 ^ (56 - 8 * y) % 256:Nat):Int)]=(be8 n).take (y+1):=by
   rw[List.take_add_one,ztE hy8]; rfl
  rw[List.append_assoc,e] at hv
  have hb:2 ^ (56 - 8 * y) < szU .u64:=Nat.lt_of_le_of_lt (Nat.pow_le_pow_right (by omega) (show 56 - 8 * y≤56 by omega)) (by decide)
  refine zaa (zNw (k:=.u64) (b:=256) rfl (by decide) hb) ?_
  repeat (first|refine oi ?_|refine ow ?_|refine wy ?_|refine wn ?_|refine wt ?_|refine wf' ?_|refine cy ?_|refine cn ?_)
  refine⟨8 - (y+1),by omega,y+1,v,cs,by omega,rfl,?_,hO,hv⟩
  rw[← hf,Nat.div_div_eq_div_mul,← Nat.pow_succ]
  rfl
 ·have hy:y=8:=by omega
  subst hy
  rw[List.take_of_length_le (by rw[zCs]; omega)] at hv
  exact hk H v cs hO hv
theorem zeK{p2 p7 p8:Nat}{Qx:LX}{Qr:LN}(hv:RdB Γ v data)(hb:∀ x ∈ data,0≤x∧x≤255)(hm:data.length % 64=0)(hl:data.length≤1000000000)
  (hO:St H (Γ++[(p7,⟨l8 zDF,true⟩),(p8,⟨zpk.map fun (n:Nat)=>u64 n,true⟩)]))
  (hk:∀ H',St H' (Γ++[(p7,⟨l8 (dSt data),true⟩),(p8,⟨zpk.map fun (n:Nat)=>u64 n,true⟩)])→Qx 4 [ptr p2 0,ptr p7 0] H') :
  zdb P true 252 zqj 132 [ptr p2 0,v,ptr p7 0,ptr p8 0,int 0] H Qx Qr:=by
 refine zTn (fun k l' H'=>∃ (y:Nat),64 * y≤data.length∧k=data.length / 64 - y∧l'=[ptr p2 0,v,ptr p7 0,ptr p8 0,int ((64 * y:Nat):Int)]∧St H' (Γ++[(p7,⟨l8 (stN data y),true⟩),(p8,⟨zpk.map fun (n:Nat)=>u64 n,true⟩)])) _ _ ?_ (data.length / 64) _ _ ⟨0,by omega,rfl,rfl,hO⟩
 clear hO
 rintro k l' H ⟨y,hy,rfl,rfl,hO⟩
 unfold zzn
 try simp only[zia,zja]
 refine zCa hv.lenSl ?_
 refine zaa zIa ?_
 refine zna (fun h=>?_) (fun h=>?_)
 ·have hy64:64 * y+64≤data.length:=by omega
  have hbb:∀ x ∈ (data.drop (64 * y)).take 64,0≤x∧x≤255:=fun x hx=>hb x (List.mem_of_mem_drop (List.mem_of_mem_take hx))
  refine zaa zZJ ?_
  rw[zVF]
  refine zHa hO ?_
  clear hO
  intro p10 H hO
  refine zra hO (_+0) (zua rfl) rfl rfl rfl ?_
  clear hO
  intro H hO
  replace hO:=hO.set_r
  refine zXJ hv.app hb hy64 hl hO ?_
  clear hO
  intro H hO
  refine zKa rfl ?_
  try simp only[zia,zja]
  refine zta hO (Γ.length+0) (zwa (zua rfl)) rfl (by omega) ?_
  rw[zbJ]
  refine zHa hO ?_
  clear hO
  intro p15 H hO
  refine zra hO (_+0) (zua rfl) rfl rfl rfl ?_
  clear hO
  intro H hO
  replace hO:=hO.set_r
  refine zYJ (s:=stN data y) (ws:=wUp ((data.drop (64 * y)).take 64) 64) (zhu y) (ziu hbb 64) (zRp 64) (j8:=Γ.length+1) (j10:=_+0) (zwa (zua rfl)) (zua rfl) hO ?_
  clear hO
  intro H hO
  refine zKa rfl ?_
  try simp only[zia,zja]
  rw[List.append_assoc,List.append_assoc] at hO
  refine zaK (s:=stN data y) (R:=zKv (wUp ((data.drop (64 * y)).take 64) 64) (stN data y) 64) (T:=[(p10,_),(p15,_)]) (zhu y) (zQp (zhu y) 64) rfl hO ?_
  clear hO
  intro H hO
  refine zKa rfl ?_
  try simp only[zia,zja]
  refine zaa (v:=int ((64 * (y+1):Nat):Int)) (by rw[zYa (by omega) (by omega)]; congr 2 <;> omega) ?_
  refine⟨data.length / 64 - (y+1),by omega,y+1,by omega,rfl,rfl,?_⟩
  rw[← List.append_assoc] at hO
  exact hO.left
 ·have ey:y=data.length / 64:=by omega
  subst ey
  exact hk _ hO
set_option maxHeartbeats 1000000 in
theorem zmu(hO:St H Γ)(hx:RdB Γ x xs)(hb:∀ x ∈ xs,0≤x∧x≤255)(hl:xs.length≤80000000)(hk:∀ H',St H' Γ→K (agg (by8 (sha xs))) H'):wCall P zEb [x] H K:=by
 apply zOt; unfold zNt
 rw[zKF]
 refine zHa hO ?_
 clear hO
 intro p2 H hO
 refine zbb hO (zjH _) ?_
 clear hO
 intro q H hO
 refine zdj (v:=sl q 0 0 3) (cs:=[]) (xs:=[]) hO (.inr ⟨q,.inr ⟨rfl,rfl⟩,rfl,Nat.le_refl _,rfl⟩) hx.app (by simp; omega) ?_
 clear hO
 intro H v cs hO hv
 refine zbb hO (zFG 128 _) ?_
 clear hO
 intro q2 H hO
 refine zPm (ys:=[128]) hO hv (by simp; omega) rfl (.inr rfl) ?_
 clear hO hv
 intro H v cs hO hv
 refine zcK (xs:=xs) hO hv (by omega) ?_
 clear hO hv
 intro H v cs hO hv
 refine zKa rfl ?_
 try simp only[zia,zja]
 have hpz:zcn xs.length < 64:=Nat.mod_lt _ (by decide)
 have hpl:=zwD (xs:=xs)
 have hpb:∀ x ∈ zEA xs,0≤x∧x≤255:=znm (znm (znm hb (zmy (by decide))) zex) zuE
 have hpm:(zEA xs).length≤1000000000:=by
  unfold zEA
  rw[List.length_append,List.length_append,List.length_append,List.length_replicate,zCs]
  show xs.length+1+zcn xs.length+8≤_
  omega
 refine zCa hx.lenSl ?_
 refine zCa (zBJ (by omega) (by omega)) ?_
 rw[Int.toNat_natCast]
 refine zaa (v:=zsb .u64 (8 * xs.length)) (by
  rw[show (Value.int .u64 8)=zsb .u64 8 from rfl,zis (k:=.u64) rfl,Nat.mod_eq_of_lt (show xs.length * 8 < szU .u64 from (show _ < 18446744073709551616 by omega)),Nat.mul_comm]) ?_
 refine zdK hO hv (by simp; omega) (by omega) ?_
 clear hO hv
 intro H v cs hO hv
 replace hv:OwnB v (zEA xs) cs:=hv
 refine zKa rfl ?_
 try simp only[zia,zja]
 refine zny hO ?_
 clear hO
 intro H hO
 refine zPv hO ?_
 clear hO
 intro H hO
 rw[zbJ,zVF]
 refine zHa hO ?_
 clear hO
 intro p7 H hO
 refine zHa hO ?_
 clear hO
 intro p8 H hO
 rw[List.append_assoc _ [_] [_]] at hO
 refine zra hO (_+0) (zua (L:=[_]++[_]) rfl) rfl rfl rfl ?_
 clear hO
 intro H hO
 replace hO:=hO.set_r
 refine zra hO (_+1) (zua (L:=[_,_]) rfl) rfl rfl rfl ?_
 clear hO
 intro H hO
 replace hO:=hO.set_r
 refine zeK (data:=zEA xs) hv.rd.app' hpb hpl hpm hO ?_
 clear hO
 intro H hO
 refine zKa rfl ?_
 try simp only[zia,zja]
 refine zaa (v:=agg (zoq [])) (by kernel_rfl) ?_
 rw[show List.replicate 32 (zsb .u8 0)=zoq [] from rfl] at hO ⊢
 refine zHa hO ?_
 clear hO
 intro p23 H hO
 refine zra hO (_+0) (zua rfl) rfl rfl rfl ?_
 clear hO
 intro H hO
 replace hO:=hO.set_r
 refine zbK (s:=dSt (zEA xs)) (T:=[]) (zhu _) (j7:=_+0) (zua (L:=[_,_]) rfl) hO ?_
 clear hO
 intro H hO
 refine zKa rfl ?_
 try simp only[zia,zja]
 refine zta hO (_+0) (zua rfl) rfl (by omega) ?_
 refine zra hO (Γ.length+0) (zwa (zwa (zwa (zua rfl)))) rfl rfl (zvd _) ?_
 clear hO
 intro H hO
 rw[List.set_append_left _ _ (by simp),List.set_append_left _ _ (by simp),List.set_append_left _ _ (by simp),Go.Ab.set_r] at hO
 refine zta hO (Γ.length+0) (zwa (zwa (zwa (zua rfl)))) rfl (by omega) ?_
 exact hk H hO.left.left.left.left
end J
set_option maxRecDepth 100000
namespace J
open Go Go.Ab
variable{H:Heap}{Γ:List (Nat × Blk)}{K:VH}{v w x:Value}{xs ys:List Int}
end J
set_option maxRecDepth 100000
namespace J
open Go Go.Ab
variable{H:Heap}{Γ:List (Nat × Blk)}{K:VH}{v w x:Value}{xs ys:List Int}{j p:Nat}{e:Int}
end J
set_option maxRecDepth 100000
namespace J
open Go Go.Ab
variable{H:Heap}{Γ:List (Nat × Blk)}{K:VH}{v w x:Value}{xs ys:List Int}{j p:Nat}{e:Int}
end J
set_option linter.unusedSectionVars false
set_option maxRecDepth 100000
namespace J
open Go Go.Ab
variable{H:Heap}{Γ Γ0 Γ2 Δ G L:List (Nat × Blk)}{K:VH}{v w x:Value}{xs ys zs bs b key ms:List Int}{j p q o n k:Nat}{e:Int}{cs cs':List Value}
section rules
variable[LpC]
theorem _root_.Go.Ab.St.z(h:St H Γ):St H (Γ++[]):=by rw[List.append_nil]; exact h
theorem _root_.Go.Ab.St.as{A B:List (Nat × Blk)}(h:St H ((Γ++A)++B)):St H (Γ++(A++B)):=by rw[List.append_assoc] at h; exact h
theorem nw(h:St H (Γ++L))(hk:∀ p H',St H' (Γ++(L++[(p,⟨cs,true⟩)]))→K (ptr p 0) H'):zrc cs H K:=
 zHa h fun p H' hO=>hk p H' hO.as
theorem s1{K:VH}(h:St H (Γ++L))(k:Nat)(hi:L[k]?=some (p,⟨cs,true⟩))(h1:oneCell v=true)(hn:o < cs.length)(hk:∀ H',St H' (Γ++L.set k (p,⟨cs.set o v,true⟩))→K undef H'):opW (zka 1 (ptr p o) v H) K:=
 zNa h (Γ.length+k) (zua hi) h1 hn rfl fun H' hO=>hk H' hO.set_r
theorem sw{K:VH}{new:List Value}(h:St H (Γ++L))(k:Nat)(hi:L[k]?=some (p,⟨cs,true⟩))(hn:cs.length=n)(hl:new.length=n)(h1:new.all oneCell=true)(hk:∀ H',St H' (Γ++L.set k (p,⟨new,true⟩))→K undef H'):opW (zka n (ptr p 0) (agg new) H) K:=
 zra h (Γ.length+k) (zua hi) hn hl h1 fun H' hO=>hk H' hO.set_r
theorem lw{K:VH}{b:Bool}(h:St H (Γ++L))(k:Nat)(hi:L[k]?=some (p,⟨cs,b⟩))(hn:cs.length=n)(hp:0 < n)(hk:K (agg cs) H):opW (zpa n (ptr p 0) H) K:=
 zta h (Γ.length+k) (zua hi) hn hp hk
theorem zHJ{b:Bool}(k:Nat)(hi:L[k]?=some (p,⟨by8 xs,b⟩)){c:Nat}(hc:c=2∨c=3)(hn:xs.length=n):RdB (Γ++L) (sl p 0 n c) xs:=
 .inr ⟨p,0,c,by rw[hn],hc,.inr ⟨Γ.length+k,_,zua hi,by rw[List.drop_zero]; exact List.take_of_length_le (by simp)⟩⟩
theorem kp{q o n c:Nat}{K:VH}(hO:St H (Γ++L))(k:Nat)(hi:L[k]?=some (q,⟨cs,true⟩))(hn:0 < n)(hk:K (sl q o n c) H):opW (zjn (sl q o n c) H) K:=by
 have hg:H.get q=some ⟨cs,true⟩:=hO.at _ (zua hi) (.inl rfl)
 refine zCa ?_ hk
 have hb:Nat.beq n 0=false:=by
  cases hb:Nat.beq n 0 with
  | false=>rfl
  | true=>have:=Nat.eq_of_beq_eq_true hb; omega
 unfold zjn
 simp only[hb,hg]
 have:Heap.mayWrite H q ⟨cs,true⟩=true:=by unfold Heap.mayWrite; rw[hO.fl]; rfl
 rw[this]
theorem zWF{A B:List (Nat × Blk)}(h:St H (Γ++(A++B))):St H (Γ++A):=by rw[← List.append_assoc] at h; exact h.left
end rules
end J
set_option maxRecDepth 100000
namespace J
open Go Go.Ab
variable{H:Heap}{Γ Γ0 Γ2 Δ G L:List (Nat × Blk)}{K:VH}{v w x:Value}{xs ys zs bs b key ms:List Int}{j p q o n k:Nat}{e:Int}{cs cs':List Value}
theorem zdn{m:List Int}:(sha m).length=32:=rfl
theorem zxE{m:List Int}:∀ x ∈ sha m,0≤x∧x≤255:=by
 intro x hx
 obtain⟨a,_,hx⟩:=List.mem_flatMap.1 hx
 have hm:∀ n:Nat,0≤((n % 256:Nat):Int)∧((n % 256:Nat):Int)≤255:=fun n=>by omega
 unfold be4 at hx
 simp only[List.mem_cons,List.not_mem_nil,or_false] at hx
 rcases hx with rfl|rfl|rfl|rfl <;> exact hm _
end J
set_option maxRecDepth 100000
namespace J
open Go Go.Ab
variable{H:Heap}{Γ Γ0 Γ2 Δ G L:List (Nat × Blk)}{K:VH}{v w x:Value}{xs ys zs bs b key ms:List Int}{j p q o n k:Nat}{e:Int}{cs cs':List Value}
end J
set_option maxRecDepth 100000
namespace J
open Go Go.Ab
variable{H:Heap}{Γ Γ0 Γ2 Δ G L:List (Nat × Blk)}{K:VH}{v w x:Value}{xs ys zs bs b key ms:List Int}{j p q o n k:Nat}{e:Int}{cs cs':List Value}
end J
