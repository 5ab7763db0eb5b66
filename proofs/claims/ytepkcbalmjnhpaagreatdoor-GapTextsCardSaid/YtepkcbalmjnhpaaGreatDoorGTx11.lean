/-
  What the claim leans on, part 11.
-/
import Derived.Test.YtepkcbalmjnhpaaGreatDoorGTx10
set_option maxRecDepth 100000
set_option maxHeartbeats 1000000
set_option linter.unusedVariables false
set_option linter.unusedSimpArgs false
namespace Go.Proofs.YtepkcbalmjnhpaaGreatDoor
open Go.RowKit
def M64 : Int:=18446744073709551615
def fin1 (r : Rd) (x : Re) : Option Re:=if r.fin≠0 then none else if checkN x≠0 then none else some x
def readRec (xs : List Int) : Option Re :=
 let p1:=(⟨xs,0⟩ : Rd).byte
 let p2:=p1.2.uint 8
 let p3:=p2.2.uint M64
 if p3.2.err≠0 then none
 else if p1.1 = 1 then
  match clkR (xs.drop (xs.length - p3.2.xs.length)) with
  | none=>none
  | some (c,n)=>fin1 ((⟨(xs.drop (xs.length - p3.2.xs.length)).drop n,0⟩ : Rd).event p2.1).2 ⟨p2.1,p3.1,c,1,((⟨(xs.drop (xs.length - p3.2.xs.length)).drop n,0⟩ : Rd).event p2.1).1,0⟩
 else if p1.1 = 2 then fin1 (p3.2.uint M64).2 ⟨p2.1,p3.1,clk0,2,ev0,(p3.2.uint M64).1⟩
 else fin1 p3.2 ⟨p2.1,p3.1,clk0,p1.1,ev0,0⟩
def recRD (o : Option Re) : DV:=match o with
 | none=>.tup [.agg (recD re0),.int .i64 6]
 | some r=>.tup [.agg (recD r),.int .i64 0]
theorem recRD_ids (o : Option Re) : (recRD o).ids = []:=by cases o <;> rfl
theorem sfx_uint (r : Rd) (m : Int) : ∃ n,(r.uint m).2.xs = r.xs.drop n:=by
 obtain ⟨xs,e⟩ := r
 unfold Rd.uint
 split
 ·exact ⟨0,rfl⟩
 ·split
  ·exact ⟨0,rfl⟩
  ·split
   ·exact ⟨0,rfl⟩
   ·exact ⟨_,rfl⟩
theorem sfx_byte (r : Rd) : ∃ n,r.byte.2.xs = r.xs.drop n:=by
 obtain ⟨xs,e⟩ := r
 unfold Rd.byte
 split
 ·exact ⟨0,rfl⟩
 ·cases xs with
  | nil=>exact ⟨0,rfl⟩
  | cons b rest=>exact ⟨1,rfl⟩
theorem byte_range {r : Rd} (h : RdOk r) : 0≤r.byte.1∧r.byte.1≤255:=by
 obtain ⟨xs,e⟩ := r
 unfold Rd.byte
 split
 ·exact ⟨by simp,by simp⟩
 ·cases xs with
  | nil=>exact ⟨by simp,by simp⟩
  | cons b rest=>exact h.byt b (by simp)
theorem ents_le : ∀ (n : Nat) (xs l : List Int) (t : Nat),ents n xs = some (l,t)→t≤xs.length∧l.length = n
 | 0,xs,l,t,h=>by
  simp only [ents,Option.some.injEq,Prod.mk.injEq] at h
  rw [← h.1,← h.2]; simp
 | n + 1,xs,l,t,h=>by
  unfold ents at h
  cases hd : decU 0 0 xs with
  | none=>rw [hd] at h; cases h
  | some p=>
   obtain ⟨v,m⟩ := p
   have h1:=decU_le xs 0 0 v m hd
   rw [hd] at h
   simp only at h
   cases he : ents n (xs.drop m) with
   | none=>rw [he] at h; cases h
   | some q=>
    obtain ⟨l',t'⟩ := q
    rw [he] at h
    simp only [Option.some.injEq,Prod.mk.injEq] at h
    have:=ents_le n _ l' t' he
    rw [← h.1,← h.2]
    simp at this ⊢; omega
theorem clkR_le (ys : List Int) (c : Nat→Int) (n : Nat) (h : clkR ys = some (c,n)) : n≤ys.length:=by
 unfold clkR at h
 cases ys with
 | nil=>cases h
 | cons b rest=>
  simp only at h
  split at h
  ·cases h
  ·cases he : ents b.toNat rest with
   | none=>rw [he] at h; cases h
   | some q=>
    obtain ⟨l,t⟩ := q
    rw [he] at h
    simp only at h
    have:=ents_le _ _ l t he
    split at h
    ·simp only [Option.some.injEq,Prod.mk.injEq] at h; simp; omega
    ·cases h
theorem ints_len : ∀ (n : Nat) (r : Rd),(r.ints n).1.length = n
 | 0,r=>rfl
 | n + 1,r=>by simp [Rd.ints,ints_len n]
theorem event_args (r : Rd) (h : RdOk r) (c : Int) : (r.event c).1.args.length≤4:=by
 unfold Rd.event
 simp only [ints_len]
 have:=uint_range ((((((((h.uint M31).uint 255).uint M31).uint M31).uint M31).uint M31).int)) (m:=4) (by omega)
 omega
theorem read_c (xs : List Int) (hx : ∀ b∈xs,Byt b) (hl : xs.length≤140737488355328) : PCall Tryz.prog 53 [u8s xs] (recRD (readRec xs)):=by
 have hrr : readRec xs = (
  let p1:=(⟨xs,0⟩ : Rd).byte
  let p2:=p1.2.uint 8
  let p3:=p2.2.uint M64
  if p3.2.err≠0 then none
  else if p1.1 = 1 then
   match clkR (xs.drop (xs.length - p3.2.xs.length)) with
   | none=>none
   | some (c,n)=>fin1 ((⟨(xs.drop (xs.length - p3.2.xs.length)).drop n,0⟩ : Rd).event p2.1).2 ⟨p2.1,p3.1,c,1,((⟨(xs.drop (xs.length - p3.2.xs.length)).drop n,0⟩ : Rd).event p2.1).1,0⟩
  else if p1.1 = 2 then fin1 (p3.2.uint M64).2 ⟨p2.1,p3.1,clk0,2,ev0,(p3.2.uint M64).1⟩
  else fin1 p3.2 ⟨p2.1,p3.1,clk0,p1.1,ev0,0⟩):=rfl
 simp only at hrr
 have o0 : RdOk ⟨xs,0⟩ := ⟨hx,by simp only; omega⟩
 have k0:=newReader_c xs hl
 have k1:=rByte_c ⟨xs,0⟩ o0
 have b1:=byte_range o0
 have s1:=sfx_byte ⟨xs,0⟩
 have o1:=o0.byte
 generalize (⟨xs,0⟩ : Rd).byte = q1 at *
 obtain ⟨v1,r1⟩ := q1
 simp only at hrr k1 b1 s1 o1
 have k2:=rUint_c r1 8 o1 ⟨by decide,by decide⟩
 have b2:=uint_range o1 (m:=8) (by decide)
 have s2:=sfx_uint r1 8
 have o2:=o1.uint 8
 generalize r1.uint 8 = q2 at *
 obtain ⟨v2,r2⟩ := q2
 simp only at hrr k2 b2 s2 o2
 have k3:=rUint_c r2 M64 o2 ⟨by decide,by decide⟩
 have b3:=uint_range o2 (m:=M64) (by decide)
 have s3:=sfx_uint r2 M64
 have o3:=o2.uint M64
 generalize r2.uint M64 = q3 at *
 obtain ⟨v3,r3⟩ := q3
 simp only at hrr k3 b3 s3 o3
 have k4:=rErr_c r3
 have k5:=rLeft_c r3
 have hle : r3.xs.length≤xs.length:=by
  obtain ⟨n1,e1⟩ := s1
  obtain ⟨n2,e2⟩ := s2
  obtain ⟨n3,e3⟩ := s3
  rw [e3,e2,e1]; simp only [List.length_drop]; omega
 clear s1 s2 s3
 have hm : M64 = 18446744073709551615:=rfl
 refine PCall.body Tryz.func53 Tryz.ntmps53 rfl rfl rfl (recRD_ids _) ?_
 rw [hrr]
 clear hrr
 refine a_seq ?_
 (apply a_region; (case ht=>exact .cons (o_alloc rfl)<|.cons (o_assign rfl)<|.nil _); (case hd=>kernel_rfl); (case hnew=>kernel_rfl))
 refine a_seq ?_
 (apply a_region; (case ht=>exact .cons (o_move rfl)<|.cons (o_callN (fun _=>11) 1 k0 rfl (DLeL.refl _) PreOk.nil rfl RoOk.nil)<|.cons (o_assign rfl)<|.nil _); (case hd=>kernel_rfl); (case hnew=>kernel_rfl))
 refine a_seq ?_
 (apply a_region; (case ht=>((apply tc; (case h=>exact o_move rfl)); (apply tc; (case h=>(first | (exact o_callN (fun _=>11) 1 k1 rfl (DLeL.refl _) (PreOk.cons rfl PreOk.nil) rfl RoOk.nil) | (exact o_callN (fun _=>11) 1 k2 rfl (DLeL.refl _) (PreOk.cons rfl PreOk.nil) rfl RoOk.nil) | (exact o_callN (fun _=>11) 1 k3 rfl (DLeL.refl _) (PreOk.cons rfl PreOk.nil) rfl RoOk.nil)))); (apply tc; (case h=>exact o_move rfl)); (apply tc; (case h=>(first | (exact o_callN (fun _=>11) 1 k1 rfl (DLeL.refl _) (PreOk.cons rfl PreOk.nil) rfl RoOk.nil) | (exact o_callN (fun _=>11) 1 k2 rfl (DLeL.refl _) (PreOk.cons rfl PreOk.nil) rfl RoOk.nil) | (exact o_callN (fun _=>11) 1 k3 rfl (DLeL.refl _) (PreOk.cons rfl PreOk.nil) rfl RoOk.nil)))); (apply tc; (case h=>(first | (exact o_callN (fun _=>11) 1 k1 rfl (DLeL.refl _) (PreOk.cons rfl PreOk.nil) rfl RoOk.nil) | (exact o_callN (fun _=>11) 1 k2 rfl (DLeL.refl _) (PreOk.cons rfl PreOk.nil) rfl RoOk.nil) | (exact o_callN (fun _=>11) 1 k3 rfl (DLeL.refl _) (PreOk.cons rfl PreOk.nil) rfl RoOk.nil) | (exact o_conv rfl (by simp only [InR]; omega)) | (exact o_conv_w rfl)))); (apply tc; (case h=>exact o_move rfl)); (apply tc; (case h=>(first | (exact o_callN (fun _=>11) 1 k1 rfl (DLeL.refl _) (PreOk.cons rfl PreOk.nil) rfl RoOk.nil) | (exact o_callN (fun _=>11) 1 k2 rfl (DLeL.refl _) (PreOk.cons rfl PreOk.nil) rfl RoOk.nil) | (exact o_callN (fun _=>11) 1 k3 rfl (DLeL.refl _) (PreOk.cons rfl PreOk.nil) rfl RoOk.nil)))); (apply tc; (case h=>(first | (exact o_callN (fun _=>11) 1 k1 rfl (DLeL.refl _) (PreOk.cons rfl PreOk.nil) rfl RoOk.nil) | (exact o_callN (fun _=>11) 1 k2 rfl (DLeL.refl _) (PreOk.cons rfl PreOk.nil) rfl RoOk.nil) | (exact o_callN (fun _=>11) 1 k3 rfl (DLeL.refl _) (PreOk.cons rfl PreOk.nil) rfl RoOk.nil) | (exact o_build rfl rfl rfl)))); (apply tc; (case h=>exact o_alloc rfl)); (apply tc; (case h=>(first | (exact o_callN (fun _=>11) 1 k1 rfl (DLeL.refl _) (PreOk.cons rfl PreOk.nil) rfl RoOk.nil) | (exact o_callN (fun _=>11) 1 k2 rfl (DLeL.refl _) (PreOk.cons rfl PreOk.nil) rfl RoOk.nil) | (exact o_callN (fun _=>11) 1 k3 rfl (DLeL.refl _) (PreOk.cons rfl PreOk.nil) rfl RoOk.nil) | (exact o_store rfl rfl rfl rfl rfl rfl rfl)))); exact tn)); (case hd=>kernel_rfl); (case hnew=>kernel_rfl))
 refine a_imp (σ' := ⟨[(0,u8s xs),(2,.ref 2 0),(4,.ref 11 0),(5,.ref 5 0)],[(2,some (.blk 51 (recD re0))),(11,some (rdE r3)),(5,some (.blk 51 (recD ⟨v2,v3,clk0,v1,ev0,0⟩)))],[2,5,11]⟩) (Imp.of (fun i=>i) (.cons rfl (DLe.refl _) (.cons rfl (DLe.refl _) (.cons rfl (DLe.refl _) (.cons rfl (DLe.refl _) .nil)))) (.cons rfl (.blk ?_) (.cons rfl (.refl _) (.cons rfl (.blk ?_) .nil))) rfl rfl rfl) ?_
 ·repeat (first | exact DLeL.nil | refine DLeL.cons (DLe.refl _) ?_ | refine DLeL.cons (DLe.nils 1) ?_)
 ·repeat (first | exact DLeL.nil | refine DLeL.cons (DLe.refl _) ?_ | refine DLeL.cons (DLe.nils 1) ?_)
 refine a_seq ?_
 refine a_seq ?_
 (apply a_region; (case ht=>exact .cons (o_move rfl)<|.cons (o_callN (fun _=>11) 0 k4 rfl (DLeL.refl _) (PreOk.cons rfl PreOk.nil) rfl (RoOk.cons rfl RoOk.nil))<|.cons (o_int rfl rfl rfl)<|.nil _); (case hd=>kernel_rfl); (case hnew=>kernel_rfl))
 refine a_cond _ rfl (fun c1=>?_) (fun c1=>?_)
 ·have he : r3.err≠0:=by simpa using c1
  rw [if_pos he]
  refine a_seq ?_
  (apply a_region; (case ht=>exact .cons (o_build rfl rfl rfl)<|.cons (o_store rfl rfl rfl rfl rfl rfl rfl)<|.cons (o_assign rfl)<|.nil _); (case hd=>kernel_rfl); (case hnew=>kernel_rfl))
  refine a_ret ?_
  refine a_post (ResV.r2 (ResOk.cell rfl rfl (.row _ CRow.h (Nat.le_of_ble_eq_true rfl) rfl)) (ResOk.tmp rfl)) (DLe.tup (.cons (DLe.agg ?_) (.cons (DLe.refl _) .nil))) PostOk.nil.spec
  repeat (first | exact DLeL.nil | refine DLeL.cons (DLe.refl _) ?_ | refine DLeL.cons (DLe.nils 1) ?_)
 ·have he : r3.err = 0:=by simpa using c1
  rw [if_neg (by simp [he])]
  refine a_skip ?_
  refine a_seq ?_
  refine a_seq ?_
  (apply a_region; (case ht=>((apply tc; (case h=>(first | (exact o_fieldAddr rfl) | (exact o_fieldAddr_e rfl rfl) | (exact o_fieldAddr_p rfl)))); (apply tc; (case h=>(first | (exact o_load_s rfl rfl rfl) | (exact o_load_es rfl rfl) | (exact o_load_ps rfl rfl rfl rfl rfl)))); exact tn)); (case hd=>kernel_rfl); (case hnew=>kernel_rfl))
  refine a_block ?_
  refine a_seq ?_
  (apply a_region; (case ht=>exact .cons (o_int rfl rfl rfl)<|.cons (o_assign rfl)<|.nil _); (case hd=>kernel_rfl); (case hnew=>kernel_rfl))
  refine a_cond _ rfl (fun c2=>?_) (fun c2=>?_)
  ·have h1 : v1 = 1:=by simpa using c2
   subst h1
   rw [if_pos rfl]
   have hb:=byt_drop hx (xs.length - r3.xs.length)
   have kc:=clkRead_c (xs.drop (xs.length - r3.xs.length)) hb (by simp; omega)
   have hml : (List.map (DV.int IntKind.u8) xs).length = xs.length:=by simp
   have hsl:=u8s_dropB xs (xs.length - r3.xs.length)
   refine a_seq ?_
   (apply a_region; (case ht=>((apply tc; (case h=>exact o_move rfl)); (apply tc; (case h=>exact o_move rfl)); (apply tc; (case h=>(first | (exact o_callN (fun _=>11) 0 k5 rfl (DLeL.refl _) (PreOk.cons rfl PreOk.nil) rfl (RoOk.cons rfl RoOk.nil)) | (exact o_slice (xs.length - r3.xs.length) _ rfl (Bd.at rfl (by simp; omega)) Bd.no (by simp) (Nat.le_refl _)) | (exact o_len rfl) | (exact o_len_r rfl rfl) | (exact o_len_n rfl)))); (apply tc; (case h=>exact o_move rfl)); (apply tc; (case h=>(first | (exact o_callN (fun _=>11) 0 k5 rfl (DLeL.refl _) (PreOk.cons rfl PreOk.nil) rfl (RoOk.cons rfl RoOk.nil)) | (exact o_slice (xs.length - r3.xs.length) _ rfl (Bd.at rfl (by simp; omega)) Bd.no (by simp) (Nat.le_refl _))))); (apply tc; (case h=>(first | (exact o_callN (fun _=>11) 0 k5 rfl (DLeL.refl _) (PreOk.cons rfl PreOk.nil) rfl (RoOk.cons rfl RoOk.nil)) | (exact o_slice (xs.length - r3.xs.length) _ rfl (Bd.at rfl (by simp; omega)) Bd.no (by simp) (Nat.le_refl _)) | (exact o_sub rfl rfl (by simp only [InR]; omega)) | (exact o_int rfl rfl rfl)))); (apply tc; (case h=>(first | (exact o_callN (fun _=>11) 0 k5 rfl (DLeL.refl _) (PreOk.cons rfl PreOk.nil) rfl (RoOk.cons rfl RoOk.nil)) | (exact o_slice (xs.length - r3.xs.length) _ rfl (Bd.at rfl (by simp; omega)) Bd.no (by simp) (Nat.le_refl _)) | (exact o_slice _ _ rfl (Bd.at rfl rfl) Bd.no (by omega) (by omega)) | (exact o_slice _ _ rfl Bd.no (Bd.at rfl rfl) (by omega) (by omega)) | (exact o_slice _ _ rfl (Bd.at rfl rfl) (Bd.at rfl rfl) (by omega) (by omega))))); (apply tc; (case h=>exact o_assign rfl)); exact tn)); (case hd=>kernel_rfl); (case hnew=>kernel_rfl))
   refine a_imp (σ' := ⟨[(0,u8s xs),(2,.ref 2 0),(4,.ref 11 0),(5,.ref 5 0),(6,u8s (xs.drop (xs.length - r3.xs.length)))],[(2,some (.blk 51 (recD re0))),(11,some (rdE r3)),(5,some (.blk 51 (recD ⟨v2,v3,clk0,1,ev0,0⟩)))],[2,5,11]⟩) (Imp.of (fun i=>i) (.cons rfl (DLe.refl _) (.cons rfl (DLe.refl _) (.cons rfl (DLe.refl _) (.cons rfl (DLe.refl _) (.cons rfl (DLe.of_eq ?_) .nil))))) (.cons rfl (.refl _) (.cons rfl (.refl _) (.cons rfl (.refl _) .nil))) rfl rfl rfl) ?_
   ·exact hsl
   have hyl : (xs.drop (xs.length - r3.xs.length)).length≤140737488355328:=by simp; omega
   generalize xs.drop (xs.length - r3.xs.length) = ys at *
   refine a_seq ?_
   cases hc : clkR ys with
   | none=>
    simp only [clkRD,hc] at kc
    (apply a_region; (case ht=>((apply tc; (case h=>exact o_move rfl)); (apply tc; (case h=>exact o_call kc rfl (DLeL.refl _) rfl)); (apply tc; (case h=>exact o_move rfl)); (apply tc; (case h=>exact o_extract rfl rfl)); (apply tc; (case h=>exact o_extract rfl rfl)); (apply tc; (case h=>exact o_extract rfl rfl)); (apply tc; (case h=>exact o_alloc rfl)); (apply tc; (case h=>(first | (exact o_call kc rfl (DLeL.refl _) rfl) | (exact o_store rfl rfl rfl rfl rfl rfl rfl)))); (apply tc; (case h=>exact o_assign rfl)); (apply tc; (case h=>exact o_assign rfl)); exact tn)); (case hd=>kernel_rfl); (case hnew=>kernel_rfl))
    refine a_seq ?_
    refine a_seq ?_
    (apply a_region; (case ht=>exact .cons (o_move rfl)<|.cons (o_int rfl rfl rfl)<|.nil _); (case hd=>kernel_rfl); (case hnew=>kernel_rfl))
    refine a_cond _ rfl (fun c3=>?_) (fun c3=>?_)
    ·refine a_seq ?_
     (apply a_region; (case ht=>exact .cons (o_build rfl rfl rfl)<|.cons (o_store rfl rfl rfl rfl rfl rfl rfl)<|.cons (o_assign rfl)<|.nil _); (case hd=>kernel_rfl); (case hnew=>kernel_rfl))
     refine a_ret ?_
     refine a_post (ResV.r2 (ResOk.cell rfl rfl (.row _ CRow.h (Nat.le_of_ble_eq_true rfl) rfl)) (ResOk.tmp rfl)) (DLe.tup (.cons (DLe.agg ?_) (.cons (DLe.refl _) .nil))) PostOk.nil.spec
     repeat (first | exact DLeL.nil | refine DLeL.cons (DLe.refl _) ?_ | refine DLeL.cons (DLe.nils 1) ?_)
    ·simp at c3
   | some p=>
    obtain ⟨c,n⟩ := p
    simp only [clkRD,hc] at kc
    have hnl:=clkR_le ys c n hc
    have kn:=newReader_c (ys.drop n) (by simp; omega)
    have hr5 : RdOk ⟨ys.drop n,0⟩ := ⟨byt_drop hb n,by simp; omega⟩
    have ke:=readEvent_c v2 ⟨ys.drop n,0⟩ hr5
    have al:=event_args ⟨ys.drop n,0⟩ hr5 v2
    dsimp only
    generalize Rd.event v2 ⟨ys.drop n,0⟩ = qe at *
    obtain ⟨ev,r5⟩ := qe
    simp only at ke al
    dsimp only
    have kf:=rEnd_c r5
    have kk:=check_c ⟨v2,v3,c,1,ev,0⟩ (by simp only; omega) ⟨b3.1,by simp only; omega⟩
    have hsl2:=u8s_dropB ys n
    (apply a_region; (case ht=>((apply tc; (case h=>exact o_move rfl)); (apply tc; (case h=>exact o_call kc rfl (DLeL.refl _) rfl)); (apply tc; (case h=>exact o_move rfl)); (apply tc; (case h=>exact o_extract rfl rfl)); (apply tc; (case h=>exact o_extract rfl rfl)); (apply tc; (case h=>exact o_extract rfl rfl)); (apply tc; (case h=>exact o_alloc rfl)); (apply tc; (case h=>(first | (exact o_call kc rfl (DLeL.refl _) rfl) | (exact o_store rfl rfl rfl rfl rfl rfl rfl)))); (apply tc; (case h=>exact o_assign rfl)); (apply tc; (case h=>exact o_assign rfl)); exact tn)); (case hd=>kernel_rfl); (case hnew=>kernel_rfl))
    refine a_seq ?_
    refine a_seq ?_
    (apply a_region; (case ht=>exact .cons (o_move rfl)<|.cons (o_int rfl rfl rfl)<|.nil _); (case hd=>kernel_rfl); (case hnew=>kernel_rfl))
    refine a_cond _ rfl (fun c3=>?_) (fun c3=>?_)
    ·simp at c3
    ·refine a_skip ?_
     refine a_seq ?_
     (apply a_region; (case ht=>((apply tc; (case h=>(first | (exact o_load_r rfl rfl rfl rfl) | (exact o_load_er rfl rfl rfl) | (exact o_load_pr rfl rfl rfl rfl rfl rfl)))); (apply tc; (case h=>(first | (exact o_fieldAddr rfl) | (exact o_fieldAddr_e rfl rfl) | (exact o_fieldAddr_p rfl)))); (apply tc; (case h=>exact o_store rfl rfl rfl rfl rfl rfl rfl)); exact tn)); (case hd=>kernel_rfl); (case hnew=>kernel_rfl))
     refine a_seq ?_
     (apply a_region; (case ht=>((apply tc; (case h=>exact o_move rfl)); (apply tc; (case h=>exact o_move rfl)); (apply tc; (case h=>(first | (exact o_slice n _ rfl (Bd.at rfl rfl) Bd.no (by simp; omega) (Nat.le_refl _)) | (exact o_callN (fun _=>49) 1 kn rfl (DLeL.of_eq (by rw [hsl2]; rfl)) PreOk.nil rfl RoOk.nil) | (exact o_slice _ _ rfl (Bd.at rfl rfl) Bd.no (by omega) (by omega)) | (exact o_slice _ _ rfl Bd.no (Bd.at rfl rfl) (by omega) (by omega)) | (exact o_slice _ _ rfl (Bd.at rfl rfl) (Bd.at rfl rfl) (by omega) (by omega))))); (apply tc; (case h=>(first | (exact o_slice n _ rfl (Bd.at rfl rfl) Bd.no (by simp; omega) (Nat.le_refl _)) | (exact o_callN (fun _=>49) 1 kn rfl (DLeL.of_eq (by rw [hsl2]; rfl)) PreOk.nil rfl RoOk.nil)))); (apply tc; (case h=>exact o_assign rfl)); exact tn)); (case hd=>kernel_rfl); (case hnew=>kernel_rfl))
     (apply a_region; (case ht=>((apply tc; (case h=>exact o_move rfl)); (apply tc; (case h=>(first | (exact o_fieldAddr rfl) | (exact o_fieldAddr_e rfl rfl) | (exact o_fieldAddr_p rfl)))); (apply tc; (case h=>(first | (exact o_callN (fun _=>49) 1 ke rfl (DLeL.refl _) (PreOk.cons rfl PreOk.nil) rfl RoOk.nil) | (exact o_load_s rfl rfl rfl) | (exact o_load_es rfl rfl) | (exact o_load_ps rfl rfl rfl rfl rfl)))); (apply tc; (case h=>exact o_callN (fun _=>49) 1 ke rfl (DLeL.refl _) (PreOk.cons rfl PreOk.nil) rfl RoOk.nil)); (apply tc; (case h=>(first | (exact o_fieldAddr rfl) | (exact o_fieldAddr_e rfl rfl) | (exact o_fieldAddr_p rfl)))); (apply tc; (case h=>(first | (exact o_callN (fun _=>49) 1 ke rfl (DLeL.refl _) (PreOk.cons rfl PreOk.nil) rfl RoOk.nil) | (exact o_store rfl rfl rfl rfl rfl rfl rfl)))); exact tn)); (case hd=>kernel_rfl); (case hnew=>kernel_rfl))
     refine a_imp (σ' := ⟨[(0,u8s xs),(2,.ref 2 0),(4,.ref 49 0),(5,.ref 5 0)],[(2,some (.blk 51 (recD re0))),(49,some (rdE r5)),(5,some (.blk 51 (recD ⟨v2,v3,c,1,ev,0⟩)))],[2,5,49]⟩) (Imp.of (fun i=>i) (.cons rfl (DLe.refl _) (.cons rfl (DLe.refl _) (.cons rfl (DLe.refl _) (.cons rfl (DLe.refl _) .nil)))) (.cons rfl (.refl _) (.cons rfl (.refl _) (.cons rfl (.refl _) .nil))) rfl rfl rfl) ?_
     refine a_seq ?_
     refine a_seq ?_
     (apply a_region; (case ht=>((apply tc; (case h=>exact o_move rfl)); (apply tc; (case h=>(first | (exact o_callN (fun _=>49) 0 kf rfl (DLeL.refl _) (PreOk.cons rfl PreOk.nil) rfl (RoOk.cons rfl RoOk.nil)) | (exact o_call kk rfl (DLeL.refl _) rfl)))); (apply tc; (case h=>exact o_int rfl rfl rfl)); (apply tc; (case h=>exact o_move rfl)); (apply tc; (case h=>(apply o_guardF rfl rfl; (case hS=>intro hb; exact (Strips.keep Strips.nil)); (case h=>intro hb; (first | (exact o_callN (fun _=>49) 0 kf rfl (DLeL.refl _) (PreOk.cons rfl PreOk.nil) rfl (RoOk.cons rfl RoOk.nil)) | (exact o_call kk rfl (DLeL.refl _) rfl) | (exact o_load_r rfl rfl rfl rfl) | (exact o_load_er rfl rfl rfl) | (exact o_load_pr rfl rfl rfl rfl rfl rfl)))))); (apply tc; (case h=>(apply o_guardF rfl rfl; (case hS=>intro hb; exact (Strips.strip rfl (nt hb) Strips.nil)); (case h=>intro hb; (first | (exact o_callN (fun _=>49) 0 kf rfl (DLeL.refl _) (PreOk.cons rfl PreOk.nil) rfl (RoOk.cons rfl RoOk.nil)) | (exact o_call kk rfl (DLeL.refl _) rfl)))))); (apply tc; (case h=>(apply o_guardF rfl rfl; (case hS=>intro hb; exact (Strips.strip rfl (nt hb) Strips.nil)); (case h=>intro hb; (first | (exact o_int rfl rfl rfl) | (exact o_callN (fun _=>49) 0 kf rfl (DLeL.refl _) (PreOk.cons rfl PreOk.nil) rfl (RoOk.cons rfl RoOk.nil)) | (exact o_call kk rfl (DLeL.refl _) rfl)))))); (apply tc; (case h=>(first | (exact o_and rfl rfl) | (exact o_or rfl rfl)))); exact tn)); (case hd=>kernel_rfl); (case hnew=>kernel_rfl))
     refine a_cond _ rfl (fun c7=>?_) (fun c7=>?_)
     ·have hf : fin1 r5 ⟨v2,v3,c,1,ev,0⟩ = none:=by
       unfold fin1
       simp only [Bool.or_eq_true,bne_iff_ne] at c7
       rcases c7 with h | h
       ·rw [if_pos h]
       ·rw [if_pos h]; split <;> rfl
      rw [hf]
      refine a_seq ?_
      (apply a_region; (case ht=>exact .cons (o_build rfl rfl rfl)<|.cons (o_store rfl rfl rfl rfl rfl rfl rfl)<|.cons (o_assign rfl)<|.nil _); (case hd=>kernel_rfl); (case hnew=>kernel_rfl))
      refine a_ret ?_
      refine a_post (ResV.r2 (ResOk.cell rfl rfl (.row _ CRow.h (Nat.le_of_ble_eq_true rfl) rfl)) (ResOk.tmp rfl)) (DLe.tup (.cons (DLe.agg ?_) (.cons (DLe.refl _) .nil))) PostOk.nil.spec
      repeat (first | exact DLeL.nil | refine DLeL.cons (DLe.refl _) ?_ | refine DLeL.cons (DLe.nils 1) ?_)
     ·have hf : fin1 r5 ⟨v2,v3,c,1,ev,0⟩ = some ⟨v2,v3,c,1,ev,0⟩ := by
       unfold fin1
       simp only [Bool.or_eq_false_iff,bne_eq_false_iff_eq] at c7
       rw [if_neg (by simp [c7.1]),if_neg (by simp [c7.2])]
      rw [hf]
      refine a_skip ?_
      refine a_seq ?_
      (apply a_region; (case ht=>((apply tc; (case h=>(first | (exact o_load_r rfl rfl rfl rfl) | (exact o_load_er rfl rfl rfl) | (exact o_load_pr rfl rfl rfl rfl rfl rfl)))); (apply tc; (case h=>exact o_store rfl rfl rfl rfl rfl rfl rfl)); (apply tc; (case h=>exact o_assign rfl)); exact tn)); (case hd=>kernel_rfl); (case hnew=>kernel_rfl))
      refine a_ret ?_
      refine a_post (ResV.r2 (ResOk.cell rfl rfl (.row _ CRow.h (Nat.le_of_ble_eq_true rfl) rfl)) (ResOk.tmp rfl)) (DLe.refl _) PostOk.nil.spec
  ·have h1 : v1≠1:=by simpa using c2
   rw [if_neg h1]
   refine a_seq ?_
   (apply a_region; (case ht=>exact .cons (o_int rfl rfl rfl)<|.cons (o_assign rfl)<|.nil _); (case hd=>kernel_rfl); (case hnew=>kernel_rfl))
   refine a_cond _ rfl (fun c4=>?_) (fun c4=>?_)
   ·have h2 : v1 = 2:=by simpa using c4
    subst h2
    rw [if_pos rfl]
    have k6:=rUint_c r3 M64 o3 ⟨by decide,by decide⟩
    have b6:=uint_range o3 (m:=M64) (by decide)
    have o6:=o3.uint M64
    generalize r3.uint M64 = q6 at *
    obtain ⟨v6,r6⟩ := q6
    simp only at k6 b6 o6 ⊢
    have kf:=rEnd_c r6
    have kk:=check_c ⟨v2,v3,clk0,2,ev0,v6⟩ (Nat.zero_le _) ⟨b3.1,by simp only; omega⟩
    (apply a_region; (case ht=>((apply tc; (case h=>exact o_move rfl)); (apply tc; (case h=>exact o_callN (fun _=>11) 1 k6 rfl (DLeL.refl _) (PreOk.cons rfl PreOk.nil) rfl RoOk.nil)); (apply tc; (case h=>(first | (exact o_fieldAddr rfl) | (exact o_fieldAddr_e rfl rfl) | (exact o_fieldAddr_p rfl)))); (apply tc; (case h=>(first | (exact o_callN (fun _=>11) 1 k6 rfl (DLeL.refl _) (PreOk.cons rfl PreOk.nil) rfl RoOk.nil) | (exact o_store_s rfl rfl rfl rfl rfl)))); exact tn)); (case hd=>kernel_rfl); (case hnew=>kernel_rfl))
    refine a_imp (σ' := ⟨[(0,u8s xs),(2,.ref 2 0),(4,.ref 11 0),(5,.ref 5 0)],[(2,some (.blk 51 (recD re0))),(11,some (rdE r6)),(5,some (.blk 51 (recD ⟨v2,v3,clk0,2,ev0,v6⟩)))],[2,5,11]⟩) (Imp.of (fun i=>i) (.cons rfl (DLe.refl _) (.cons rfl (DLe.refl _) (.cons rfl (DLe.refl _) (.cons rfl (DLe.refl _) .nil)))) (.cons rfl (.refl _) (.cons rfl (.refl _) (.cons rfl (.refl _) .nil))) rfl rfl rfl) ?_
    refine a_seq ?_
    refine a_seq ?_
    (apply a_region; (case ht=>((apply tc; (case h=>exact o_move rfl)); (apply tc; (case h=>(first | (exact o_callN (fun _=>11) 0 kf rfl (DLeL.refl _) (PreOk.cons rfl PreOk.nil) rfl (RoOk.cons rfl RoOk.nil)) | (exact o_call kk rfl (DLeL.refl _) rfl)))); (apply tc; (case h=>exact o_int rfl rfl rfl)); (apply tc; (case h=>exact o_move rfl)); (apply tc; (case h=>(apply o_guardF rfl rfl; (case hS=>intro hb; exact (Strips.keep Strips.nil)); (case h=>intro hb; (first | (exact o_callN (fun _=>11) 0 kf rfl (DLeL.refl _) (PreOk.cons rfl PreOk.nil) rfl (RoOk.cons rfl RoOk.nil)) | (exact o_call kk rfl (DLeL.refl _) rfl) | (exact o_load_r rfl rfl rfl rfl) | (exact o_load_er rfl rfl rfl) | (exact o_load_pr rfl rfl rfl rfl rfl rfl)))))); (apply tc; (case h=>(apply o_guardF rfl rfl; (case hS=>intro hb; exact (Strips.strip rfl (nt hb) Strips.nil)); (case h=>intro hb; (first | (exact o_callN (fun _=>11) 0 kf rfl (DLeL.refl _) (PreOk.cons rfl PreOk.nil) rfl (RoOk.cons rfl RoOk.nil)) | (exact o_call kk rfl (DLeL.refl _) rfl)))))); (apply tc; (case h=>(apply o_guardF rfl rfl; (case hS=>intro hb; exact (Strips.strip rfl (nt hb) Strips.nil)); (case h=>intro hb; (first | (exact o_int rfl rfl rfl) | (exact o_callN (fun _=>11) 0 kf rfl (DLeL.refl _) (PreOk.cons rfl PreOk.nil) rfl (RoOk.cons rfl RoOk.nil)) | (exact o_call kk rfl (DLeL.refl _) rfl)))))); (apply tc; (case h=>(first | (exact o_and rfl rfl) | (exact o_or rfl rfl)))); exact tn)); (case hd=>kernel_rfl); (case hnew=>kernel_rfl))
    refine a_cond _ rfl (fun c7=>?_) (fun c7=>?_)
    ·have hf : fin1 r6 ⟨v2,v3,clk0,2,ev0,v6⟩ = none:=by
      unfold fin1
      simp only [Bool.or_eq_true,bne_iff_ne] at c7
      rcases c7 with h | h
      ·rw [if_pos h]
      ·rw [if_pos h]; split <;> rfl
     rw [hf]
     refine a_seq ?_
     (apply a_region; (case ht=>exact .cons (o_build rfl rfl rfl)<|.cons (o_store rfl rfl rfl rfl rfl rfl rfl)<|.cons (o_assign rfl)<|.nil _); (case hd=>kernel_rfl); (case hnew=>kernel_rfl))
     refine a_ret ?_
     refine a_post (ResV.r2 (ResOk.cell rfl rfl (.row _ CRow.h (Nat.le_of_ble_eq_true rfl) rfl)) (ResOk.tmp rfl)) (DLe.tup (.cons (DLe.agg ?_) (.cons (DLe.refl _) .nil))) PostOk.nil.spec
     repeat (first | exact DLeL.nil | refine DLeL.cons (DLe.refl _) ?_ | refine DLeL.cons (DLe.nils 1) ?_)
    ·have hf : fin1 r6 ⟨v2,v3,clk0,2,ev0,v6⟩ = some ⟨v2,v3,clk0,2,ev0,v6⟩ := by
      unfold fin1
      simp only [Bool.or_eq_false_iff,bne_eq_false_iff_eq] at c7
      rw [if_neg (by simp [c7.1]),if_neg (by simp [c7.2])]
     rw [hf]
     refine a_skip ?_
     refine a_seq ?_
     (apply a_region; (case ht=>((apply tc; (case h=>(first | (exact o_load_r rfl rfl rfl rfl) | (exact o_load_er rfl rfl rfl) | (exact o_load_pr rfl rfl rfl rfl rfl rfl)))); (apply tc; (case h=>exact o_store rfl rfl rfl rfl rfl rfl rfl)); (apply tc; (case h=>exact o_assign rfl)); exact tn)); (case hd=>kernel_rfl); (case hnew=>kernel_rfl))
     refine a_ret ?_
     refine a_post (ResV.r2 (ResOk.cell rfl rfl (.row _ CRow.h (Nat.le_of_ble_eq_true rfl) rfl)) (ResOk.tmp rfl)) (DLe.refl _) PostOk.nil.spec
   ·have h2 : v1≠2:=by simpa using c4
    rw [if_neg h2]
    have kf:=rEnd_c r3
    have kk:=check_c ⟨v2,v3,clk0,v1,ev0,0⟩ (Nat.zero_le _) ⟨b3.1,by simp only; omega⟩
    refine a_skip ?_
    refine a_seq ?_
    refine a_seq ?_
    (apply a_region; (case ht=>((apply tc; (case h=>exact o_move rfl)); (apply tc; (case h=>(first | (exact o_callN (fun _=>11) 0 kf rfl (DLeL.refl _) (PreOk.cons rfl PreOk.nil) rfl (RoOk.cons rfl RoOk.nil)) | (exact o_call kk rfl (DLeL.refl _) rfl)))); (apply tc; (case h=>exact o_int rfl rfl rfl)); (apply tc; (case h=>exact o_move rfl)); (apply tc; (case h=>(apply o_guardF rfl rfl; (case hS=>intro hb; exact (Strips.keep Strips.nil)); (case h=>intro hb; (first | (exact o_callN (fun _=>11) 0 kf rfl (DLeL.refl _) (PreOk.cons rfl PreOk.nil) rfl (RoOk.cons rfl RoOk.nil)) | (exact o_call kk rfl (DLeL.refl _) rfl) | (exact o_load_r rfl rfl rfl rfl) | (exact o_load_er rfl rfl rfl) | (exact o_load_pr rfl rfl rfl rfl rfl rfl)))))); (apply tc; (case h=>(apply o_guardF rfl rfl; (case hS=>intro hb; exact (Strips.strip rfl (nt hb) Strips.nil)); (case h=>intro hb; (first | (exact o_callN (fun _=>11) 0 kf rfl (DLeL.refl _) (PreOk.cons rfl PreOk.nil) rfl (RoOk.cons rfl RoOk.nil)) | (exact o_call kk rfl (DLeL.refl _) rfl)))))); (apply tc; (case h=>(apply o_guardF rfl rfl; (case hS=>intro hb; exact (Strips.strip rfl (nt hb) Strips.nil)); (case h=>intro hb; (first | (exact o_int rfl rfl rfl) | (exact o_callN (fun _=>11) 0 kf rfl (DLeL.refl _) (PreOk.cons rfl PreOk.nil) rfl (RoOk.cons rfl RoOk.nil)) | (exact o_call kk rfl (DLeL.refl _) rfl)))))); (apply tc; (case h=>(first | (exact o_and rfl rfl) | (exact o_or rfl rfl)))); exact tn)); (case hd=>kernel_rfl); (case hnew=>kernel_rfl))
    refine a_cond _ rfl (fun c7=>?_) (fun c7=>?_)
    ·have hf : fin1 r3 ⟨v2,v3,clk0,v1,ev0,0⟩ = none:=by
      unfold fin1
      simp only [Bool.or_eq_true,bne_iff_ne] at c7
      rcases c7 with h | h
      ·rw [if_pos h]
      ·rw [if_pos h]; split <;> rfl
     rw [hf]
     refine a_seq ?_
     (apply a_region; (case ht=>exact .cons (o_build rfl rfl rfl)<|.cons (o_store rfl rfl rfl rfl rfl rfl rfl)<|.cons (o_assign rfl)<|.nil _); (case hd=>kernel_rfl); (case hnew=>kernel_rfl))
     refine a_ret ?_
     refine a_post (ResV.r2 (ResOk.cell rfl rfl (.row _ CRow.h (Nat.le_of_ble_eq_true rfl) rfl)) (ResOk.tmp rfl)) (DLe.tup (.cons (DLe.agg ?_) (.cons (DLe.refl _) .nil))) PostOk.nil.spec
     repeat (first | exact DLeL.nil | refine DLeL.cons (DLe.refl _) ?_ | refine DLeL.cons (DLe.nils 1) ?_)
    ·have hf : fin1 r3 ⟨v2,v3,clk0,v1,ev0,0⟩ = some ⟨v2,v3,clk0,v1,ev0,0⟩ := by
      unfold fin1
      simp only [Bool.or_eq_false_iff,bne_eq_false_iff_eq] at c7
      rw [if_neg (by simp [c7.1]),if_neg (by simp [c7.2])]
     rw [hf]
     refine a_skip ?_
     refine a_seq ?_
     (apply a_region; (case ht=>((apply tc; (case h=>(first | (exact o_load_r rfl rfl rfl rfl) | (exact o_load_er rfl rfl rfl) | (exact o_load_pr rfl rfl rfl rfl rfl rfl)))); (apply tc; (case h=>exact o_store rfl rfl rfl rfl rfl rfl rfl)); (apply tc; (case h=>exact o_assign rfl)); exact tn)); (case hd=>kernel_rfl); (case hnew=>kernel_rfl))
     refine a_ret ?_
     refine a_post (ResV.r2 (ResOk.cell rfl rfl (.row _ CRow.h (Nat.le_of_ble_eq_true rfl) rfl)) (ResOk.tmp rfl)) (DLe.refl _) PostOk.nil.spec
def RRec_Bytes (x : RRec) : Option (List Int):=chk (reFits x = true) (some (recBytes (reOf x)))
theorem RRec_Bytes_c {x : RRec} {r : List Int} (hM : RRec_Bytes x = some r) : PCall Tryz.prog 14 [.agg x.cs] (.sl 1 (List.map (DV.int .u8) r)):=by
 obtain ⟨h,hM⟩ := of_chk hM
 obtain rfl:=Option.some.inj hM
 have:=reFits_T h
 have k:=recBytes_c (reOf x) this.2 this.1
 rw [reOf_D] at k; exact k
def record_Equal (x y : RRec) : Option Bool:=chk (reFits x = true) (some (recEq (reOf x) (reOf y)))
theorem record_Equal_c {x y : RRec} {r : Bool} (hM : record_Equal x y = some r) : PCall Tryz.prog 130 [.agg x.cs,.agg y.cs] (.bool r):=by
 obtain ⟨h,hM⟩ := of_chk hM
 obtain rfl:=Option.some.inj hM
 have:=reFits_T h
 have k:=equal_c (reOf x) (reOf y) this.2
 rw [reOf_D,reOf_D] at k; exact k
def ofRe (y : Re) : RRec := ⟨y.comp,y.seq,⟨y.clk⟩,y.what,⟨y.ev.tick,y.ev.comp,y.ev.kind,y.ev.peer,y.ev.n,y.ev.copy,y.ev.handler,y.ev.d,y.ev.args⟩,y.count⟩
def bytOk (xs : List Int) : Bool:=xs.all (okI .u8) && decide (xs.length≤140737488355328)
def record_Read (xs : List Int) : Option (RRec × Int):=chk (bytOk xs = true) (some (match readRec xs with
 | none=>(ofRe re0,6)
 | some y=>(ofRe y,0)))
theorem record_Read_c {xs : List Int} {r : RRec × Int} (hM : record_Read xs = some r) : PCall Tryz.prog 53 [.sl 1 (List.map (DV.int .u8) xs)] (.tup [.agg r.1.cs,.int .i64 r.2]):=by
 obtain ⟨h,hM⟩ := of_chk hM
 obtain rfl:=Option.some.inj hM
 simp only [bytOk,Bool.and_eq_true,List.all_eq_true,okI_iff,InR,decide_eq_true_eq] at h
 have k:=read_c xs (fun b hb=>h.1 b hb) h.2
 cases hr : readRec xs with
 | none=>rw [hr] at k; exact k
 | some y=>rw [hr] at k; exact k
def readStep (s : List RRec × Int) (x : frame_Part) : Option (List RRec × Int) :=
 if x.gGood = true then
  (record_Read x.gBody).bind fun r=>
  if (r.2 == 0) = true then chk (apOk 248 (List.length s.1 + List.length [r.1])) (some (s.1++[r.1],s.2)) else some (s.1,IntKind.wrap .i64 (s.2 + x.gLen))
 else some (s.1,IntKind.wrap .i64 (s.2 + x.gLen))
def foldO {α β : Type} (f : β→α→Option β) : β→List α→Option β
 | s,[]=>some s
 | s,x :: xs=>(f s x).bind fun s'=>foldO f s' xs
theorem foldO_at {α β : Type} {f : β→α→Option β} : ∀ {xs : List α} {s r : β},foldO f s xs = some r→∃ g : Nat→β,g 0 = s∧(∀ k x,xs[k]? = some x→f (g k) x = some (g (k + 1)))∧g xs.length = r
 | [],s,r,h=>⟨fun _=>s,rfl,fun k x hx=>by simp at hx,Option.some.inj h⟩
 | x :: xs,s,r,h=>by
  obtain ⟨s',h1,h2⟩ := of_bind h
  obtain ⟨g,g0,g1,g2⟩ := foldO_at h2
  refine ⟨fun k=>match k with | 0=>s | k + 1=>g k,rfl,fun k y hy=>?_,g2⟩
  cases k with
  | zero=>simp at hy; subst hy; simp only [g0]; exact h1
  | succ k=>exact g1 k y (by simpa using hy)
def recorder_Read (p : List Int) : Option (List RRec × Int) :=
 chk (apOk 1 (List.length ([] : List Int) + List.length p))<|
 (scanM (([] : List Int)++p) ((([] : List Int)++p).length + 1) 0).bind fun parts=>foldO readStep ([],0) parts
theorem recorder_Read_c {x0 : List Int} {r : List RRec × Int} (hM : recorder_Read x0 = some r) : PCall Tryz.prog 21 [.sl 1 (List.map (DV.int .u8) x0)] (.tup [.sl 29 (List.map RRec.dv r.1),.int .i64 r.2]):=by
 unfold recorder_Read at hM
 obtain ⟨h1,hM⟩ := of_chk hM
 obtain ⟨parts,hP,hM⟩ := of_bind hM
 obtain ⟨g,g0,g1,g2⟩ := foldO_at hM
 refine PCall.ofD Tryz.func21 Tryz.ntmps21 rfl rfl rfl rfl ?_
 refine d_seqL (a_region (.cons (o_alloc rfl)<|.cons (o_alloc rfl)<|.nil _) (by kernel_rfl) (by kernel_rfl) ?_)
 refine d_seqR ?_
 refine d_seqL (a_region (.cons (o_move rfl)<|.cons (o_call (scan_c h1) rfl (DLeL.refl _) rfl)<|.nil _) (by kernel_rfl) (by kernel_rfl) ?_)
 refine d_block ?_
 refine d_range (scan1_iter hP) [(2,.ref 100001 0),(3,.ref 100002 0),(8,.clo 85 [.eptr [.sl 1 (List.map (DV.int .u8) (([] : List Int)++x0))]])]
  (fun k=>[(100001,some (.blk 25 [.row 7])),(100002,some (.blk 3 [.int .i64 (g k).2])),(7,some (.row 51 29 (List.map RRec.dv (g k).1)))]) [100001,100002,7] ?_ rfl rfl ?_ (by decide) (by decide) (by decide) ?_ ?_
 ·rw [g0]
  exact (Imp.nilC (id:=2) (rid:=7) (j:=0) 51 29 rfl rfl rfl rfl).trans (Imp.of (fun i=>bif Nat.beq i 100001 then 2 else bif Nat.beq i 100002 then 3 else i) (.cons rfl (DLe.refl _) (.cons rfl (DLe.refl _) (.cons rfl (DLe.refl _) .nil))) (.cons rfl (.refl _) (.cons rfl (.refl _) (.cons rfl (.refl _) .nil))) rfl rfl rfl)
 ·intro t d hl i hi
  rw [look_cons] at hl
  split at hl
  ·injection hl with hl; subst hl; simp [DV.ids] at hi; omega
  ·rw [look_cons] at hl
   split at hl
   ·injection hl with hl; subst hl; simp [DV.ids] at hi; omega
   ·rw [look_cons] at hl
    split at hl
    ·injection hl with hl; subst hl; simp [DV.ids,idsL] at hi
    ·cases hl
 ·intro k d R R' hk
  rw [List.getElem?_map] at hk
  obtain ⟨x,hx,rfl⟩ := Option.map_eq_some_iff.1 hk
  have hs:=g1 k x hx
  generalize g (k + 1) = s' at hs ⊢
  generalize g k = s at hs ⊢
  obtain ⟨l,lost⟩ := s
  unfold readStep at hs
  dsimp only at hs ⊢
  refine a_region (.cons (o_alloc rfl)<|.cons (o_store rfl rfl rfl rfl rfl rfl rfl)<|.nil _) (by kernel_rfl) (by kernel_rfl) ?_
  refine ⟨rfl,?_⟩
  refine a_block ?_
  refine a_seq ?_
  refine a_seq ?_
  refine a_region (.cons (o_fieldAddr rfl)<|.cons (o_load_s rfl rfl rfl)<|.nil _) (by kernel_rfl) (by kernel_rfl) ?_
  refine a_cond _ rfl (fun hb=>?_) (fun hb=>?_)
  ·replace hs:=(of_if hs).1 hb
   obtain ⟨y,hy,hs⟩ := of_bind hs
   refine a_seq ?_
   refine a_region (.cons (o_fieldAddr rfl)<|.cons (o_load_s rfl rfl rfl)<|.cons (o_call (record_Read_c hy) rfl (DLeL.refl _) rfl)<|.cons (o_move rfl)<|.cons (o_extract rfl rfl)<|.cons (o_extract rfl rfl)<|.cons (o_alloc rfl)<|.cons (o_store rfl rfl rfl rfl rfl rfl rfl)<|.cons (o_assign rfl)<|.nil _) (by kernel_rfl) (by kernel_rfl) ?_
   refine a_seq ?_
   refine a_region (.cons (o_move rfl)<|.cons (o_int rfl rfl rfl)<|.nil _) (by kernel_rfl) (by kernel_rfl) ?_
   refine a_cond _ rfl (fun hb2=>?_) (fun hb2=>?_)
   ·replace hs:=(of_if hs).1 hb2
    obtain ⟨h3,hs⟩ := of_chk hs
    obtain rfl:=Option.some.inj hs
    refine a_seq ?_
    refine a_region (.cons (o_load_s rfl rfl rfl)<|.cons (o_load_r rfl rfl rfl rfl)<|.cons (t_build RRec.dv ([y.1] : List RRec) rfl rfl rfl rfl rfl rfl rfl)<|.cons (t_append [y.1] h3 rfl rfl rfl (Src.row rfl))<|.cons (o_store_s rfl rfl rfl rfl rfl)<|.nil _) (by kernel_rfl) (by kernel_rfl) ?_
    refine a_exit ?_
    refine ⟨rfl,?_⟩
    exact Imp.of (fun i=>bif Nat.beq i 7 then 23 else i) .nil (.cons rfl (.refl _) (.cons rfl (.refl _) (.cons rfl (.refl _) (.cons rfl (.refl _) (.cons rfl (.refl _) .nil))))) rfl rfl rfl
   ·replace hs:=(of_if hs).2 hb2
    obtain rfl:=Option.some.inj hs
    refine a_skip ?_
    refine a_region (.cons (o_load_s rfl rfl rfl)<|.cons (o_fieldAddr rfl)<|.cons (o_load_s rfl rfl rfl)<|.cons (o_int rfl rfl rfl)<|.cons (o_store_s rfl rfl rfl rfl rfl)<|.nil _) (by kernel_rfl) (by kernel_rfl) ?_
    refine ⟨rfl,?_⟩
    exact Imp.of (fun i=>i) .nil (.cons rfl (.refl _) (.cons rfl (.refl _) (.cons rfl (.refl _) (.cons rfl (.refl _) (.cons rfl (.refl _) .nil))))) rfl rfl rfl
  ·replace hs:=(of_if hs).2 hb
   obtain rfl:=Option.some.inj hs
   refine a_skip ?_
   refine a_region (.cons (o_load_s rfl rfl rfl)<|.cons (o_fieldAddr rfl)<|.cons (o_load_s rfl rfl rfl)<|.cons (o_int rfl rfl rfl)<|.cons (o_store_s rfl rfl rfl rfl rfl)<|.nil _) (by kernel_rfl) (by kernel_rfl) ?_
   refine ⟨rfl,?_⟩
   exact Imp.of (fun i=>i) .nil (.cons rfl (.refl _) (.cons rfl (.refl _) (.cons rfl (.refl _) (.cons rfl (.refl _) (.cons rfl (.refl _) .nil))))) rfl rfl rfl
 ·rw [List.length_map,g2]
  refine a_seq ?_
  refine a_draw mixed (.cons (o_load_s rfl rfl rfl)<|.cons (o_load_s rfl rfl rfl)<|.cons (o_store_s rfl rfl rfl rfl rfl)<|.cons (o_store_s rfl rfl rfl rfl rfl)<|.nil _) (by kernel_rfl) (by kernel_rfl) (by kernel_rfl) ?_
  refine a_imp (Imp.freeze (id:=7) rfl) ?_
  refine a_ret ⟨_,.r2 (.cell rfl rfl (.sc CSc.h rfl)) (.cell rfl rfl (.sc CSc.h rfl)),DLe.refl _,rfl⟩
end Go.Proofs.YtepkcbalmjnhpaaGreatDoor
