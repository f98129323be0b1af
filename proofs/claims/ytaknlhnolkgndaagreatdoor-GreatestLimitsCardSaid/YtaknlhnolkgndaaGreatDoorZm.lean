/-
  Lemmas. No condition.
-/
import Derived.Test.YtaknlhnolkgndaaGreatDoorZl
import Derived.Test.YtaknlhnolkgndaaGreatDoorVb
noncomputable section
namespace Go.Proofs.Tryz.Kn
open Go Go.CE Go.RowKit
def M3(call:zc)(_f:Nat)(a0:Zb)(h0:Za):Res:=
 z0 (call (.inl 5) [] h0) fun v1 h2=>
 z0 (zvL v1 h2) fun v3 h4=>
 ifK v3
 (zeL h4 (zkF (zvR (.s (.one (.bool false)))) (some [])))
 (z0 (call (.inl 6) [] h4) fun v5 h6=>
 z0 (ztv [.str ⟨#[]⟩,.nils,.nils,.nils,.nils,.int .u64 (.ofNat 0),.int .u64 (.ofNat 0),.int .i64 (.ofNat 0),.int .i64 (.ofNat 0),.int .i64 (.ofNat 0),.int .i64 (.ofNat 0)] h6) fun v7 h8=>
 z0 (ztt 11 v7 v5 h8) fun _ h10=>
 z0 (zvO zsF a0 (.s (.one (.int .u8 (.ofNat 4)))) h10) fun v11 h12=>
 z0 (zom .i64 v11 h12) fun v13 h14=>
 z0 (zvO zu8 (.s (.one (.int .i64 (.ofNat 11)))) v13 h14) fun v15 h16=>
 z0 (zol v7 0 h16) fun v17 h18=>
 z0 (zol v17 2 h18) fun v19 h20=>
 z0 (zoj none v19 h20) fun v21 h22=>
 z0 (zvO zu8 (.s (.one (.int .i64 (.ofNat 35)))) v15 h22) fun v23 h24=>
 z0 (zk2 [.int .i64 (.ofNat 0),.int .i64 (.ofNat 0)] [(0,1,(.s (.one (.int .i64 (.ofNat 36))))),(1,1,v23)] h24) fun v25 h26=>
 z0 (zvN 5 v21 (.s (.one (.int .i64 (.ofNat 0)))) h26) fun v27 h28=>
 z0 (zol v27 2 h28) fun v29 h30=>
 z0 (ztt 2 v29 v25 h30) fun _ h32=>
 z0 (zoj (some 11) v7 h32) fun v33 h34=>
 z0 (call (.inl 7) [v33] h34) fun v35 h36=>
 z0 (za7 v35 0 h36) fun v37 h38=>
 z0 (za7 v35 1 h38) fun v39 h40=>
 z0 (ztv [.nils,.int .i64 (.ofNat 0),.nils] h40) fun v41 h42=>
 z0 (ztt 3 v41 v37 h42) fun _ h44=>
 z0 (zk2 [.int .i64 (.ofNat 0),.int .i64 (.ofNat 0),.int .i64 (.ofNat 0),.int .i64 (.ofNat 0)] [] h44) fun v45 h46=>
 z0 (zol v7 7 h46) fun v47 h48=>
 z0 (ztt 4 v47 v45 h48) fun _ h50=>
 z0 (zoj (some 11) v7 h50) fun v51 h52=>
 z0 (call (.inl 7) [v51] h52) fun v53 h54=>
 z0 (za7 v53 0 h54) fun v55 h56=>
 z0 (za7 v53 1 h56) fun v57 h58=>
 z0 (ztv [.nils,.int .i64 (.ofNat 0),.nils] h58) fun v59 h60=>
 z0 (ztt 3 v59 v55 h60) fun _ h62=>
 z0 (zvO zyp v15 (.s (.one (.int .i64 (.ofNat 12)))) h62) fun v63 h64=>
 ifK v63
 (z0 (zol v41 2 h64) fun v65 h66=>
 z0 (zoj none v65 h66) fun v67 h68=>
 z0 (zk1 v67 h68) fun v69 h70=>
 z0 (zol v59 2 h70) fun v71 h72=>
 z0 (zoj none v71 h72) fun v73 h74=>
 z0 (zk1 v73 h74) fun v75 h76=>
 z0 (zvO zu8 v69 v75 h76) fun v77 h78=>
 z0 (zvO zyr v77 (.s (.one (.int .i64 (.ofNat 0)))) h78) fun v79 h80=>
 z0 (gK v79 true h80 (some (v39,h80))) fun v81 h82=>
 z0 (gK v79 true h82 (zvO zyr v81 (.s (.one (.int .i64 (.ofNat 4)))) h82)) fun v83 h84=>
 z0 (zog v79 v83 (.s (.one (.bool false))) h84) fun v85 h86=>
 z0 (gK v85 true h86 (some (v57,h86))) fun v87 h88=>
 z0 (gK v85 true h88 (zvO zyr v87 (.s (.one (.int .i64 (.ofNat 4)))) h88)) fun v89 h90=>
 z0 (zog v85 v89 (.s (.one (.bool false))) h90) fun v91 h92=>
 zeL h92 (zkF (zvR v91) (some [])))
 (z0 (zvO zyr v39 (.s (.one (.int .i64 (.ofNat 0)))) h64) fun v93 h94=>
 z0 (gK v93 true h94 (zol v41 1 h94)) fun v95 h96=>
 z0 (gK v93 true h96 (zoj none v95 h96)) fun v97 h98=>
 z0 (gK v93 true h98 (zvO zyr v97 (.s (.one (.int .i64 (.ofNat 10)))) h98)) fun v99 h100=>
 z0 (zog v93 v99 (.s (.one (.bool false))) h100) fun v101 h102=>
 z0 (gK v101 true h102 (some (v57,h102))) fun v103 h104=>
 z0 (gK v101 true h104 (zvO zyr v103 (.s (.one (.int .i64 (.ofNat 0)))) h104)) fun v105 h106=>
 z0 (zog v101 v105 (.s (.one (.bool false))) h106) fun v107 h108=>
 z0 (gK v107 true h108 (zol v59 1 h108)) fun v109 h110=>
 z0 (gK v107 true h110 (zoj none v109 h110)) fun v111 h112=>
 z0 (gK v107 true h112 (zvO zyr v111 (.s (.one (.int .i64 (.ofNat 0)))) h112)) fun v113 h114=>
 z0 (zog v107 v113 (.s (.one (.bool false))) h114) fun v115 h116=>
 zeL h116 (zkF (zvR v115) (some []))))
theorem m3(call:zc)(f:Nat)(a0:Zb)(h0:Za):zpq Tryz.prog 3 call f [a0] h0=M3 call f a0 h0:=by kernel_rfl
def xN:List CE.Sum:=kSum36::KL.sums
theorem x5:∀s∈xN,ke Tryz.prog s:=by
 intro s hs;rcases Yzv.1 hs with rfl|hs
 .exact zmO
 exact KL.sums_ok s hs
def kk:zc:=zhu (zH Tryz.prog) fs xN KL.nsums 100000
def u8A(n:Nat):Zb:=.s (.one (.int .u8 (.ofNat n)))
def v6(r:Nat):Res:=zpq Tryz.prog 3 kk 100000 [u8A r] ⟨.z,.nil⟩
theorem zzR:isTrue (v6 0)=true:=by kernel_rfl
theorem zzQ:isTrue (v6 1)=true:=by kernel_rfl
theorem zzP:isTrue (v6 2)=true:=by kernel_rfl
theorem zzO:isTrue (v6 3)=true:=by kernel_rfl
theorem ql(n:Nat)(h:Za):zvO zsF (u8A n) (.s (.one (.int .u8 (.ofNat 4)))) h=zvO zsF (u8A (n % 4)) (.s (.one (.int .u8 (.ofNat 4)))) h:=by show (some (Zb.s (.one (.int .u8 (.ofNat (n % 4)))),h):Res)=some (Zb.s (.one (.int .u8 (.ofNat (n % 4 % 4)))),h);rw[Nat.mod_mod]
theorem vb(n:Nat)(call:zc)(f:Nat)(h:Za):zpq Tryz.prog 3 call f [u8A n] h=zpq Tryz.prog 3 call f [u8A (n % 4)] h:=by rw[m3,m3];unfold M3;simp only[ql n]
theorem x3(s:List CE.Sum)(ns:List Zl)(n:Nat):zhu (zH Tryz.prog) fs s ns (n+1)=zqM ns (zcJ s (zaV (zH Tryz.prog) fs (zhu (zH Tryz.prog) fs s ns n) n)):=rfl
def wc(n:Nat):CE.Sum:=⟨3,[u8A n],[],.s (.one (.bool true))⟩
theorem w6(m n:Nat){h2:Za}(e:zpq Tryz.prog 3 (zhu (zH Tryz.prog) fs xN KL.nsums m) m [u8A n] ⟨.z,.nil⟩=some (.s (.one (.bool true)),h2)):ke Tryz.prog (wc n):=by
 refine⟨_,zju zpE x5 KL.nsums_ok (m+1),?_⟩;have run:zhu (zH Tryz.prog) fs xN KL.nsums (m+1) (.inl 3) [u8A n] ⟨.z,.nil⟩=some (.s (.one (.bool true)),h2):=by have f1:qO 3 [u8A n] ⟨.z,.nil⟩ KL.nsums=none:=rfl;have f2:xS 3 [u8A n] ⟨.z,.nil⟩ xN=none:=rfl;rw[x3];unfold zqM;simp only[f1];unfold zcJ;simp only[f2];show zm9 (cFs (yL Tryz.prog)) (zhu (zH Tryz.prog) fs xN KL.nsums m) m 3 [u8A n] ⟨.z,.nil⟩=_;exact zsm e
 unfold Sum.chk wc;simp only[show (Sum.heap ⟨3,[u8A n],[],.s (.one (.bool true))⟩)=⟨.z,.nil⟩ from rfl,run];rfl
theorem w4(n:Nat):ke Tryz.prog (wc n):=by
 have hl:isTrue (v6 (n % 4))=true:=by
  obtain h|h|h|h:n % 4=0\/n % 4=1\/n % 4=2\/n % 4=3:=by omega
  .rw[h];exact zzR
  .rw[h];exact zzQ
  .rw[h];exact zzP
  .rw[h];exact zzO
 obtain⟨h2,e⟩:=zkr hl;exact w6 _ n ((vb n kk _ _).trans e)
end Go.Proofs.Tryz.Kn
end
