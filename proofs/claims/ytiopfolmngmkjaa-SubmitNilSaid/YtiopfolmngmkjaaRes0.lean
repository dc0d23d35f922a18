/-
  What must hold ahead of each function's code, told by its text.
-/
import Derived.Test.YtiopfolmngmkjaaFn
namespace Go.Proofs.Ytiopfolmngmkjaa
open Go Go.AM
set_option maxRecDepth 100000
/-! duet/duetlaw15.SubmitNil -/
def sh4 (m : Bool) (E : Env) (m00 : Int) (m01 : Int) (m02 : (Option Addr)) (m02n : Nat) (m02c : Nat) (m03 : Int) (m04 : Int) (m05 : Int) (m06 : Int) (m07 : Int) (m08 : Int) (m09 : Int) (h : H) (N : Value → H → Prop) : Prop :=
 (∀ h1 : H, ((h1 = (H.enter h)) → (∀ h11 : H, ((h11 = (H.new h1 (AObj.row [(VI m00), (VI m01), (VS m02 m02n m02c), (VI m03), (VI m04), (VI m05), (VI m06), (VI m07), (VI m08), (VI m09)] Bool.false Bool.false))) → (∃ p : (Option Addr), (∃ n : Nat, (∃ c : Nat, (((ld h11 none (addOff ⟨h1.next, 0, none⟩ 2)) = (some (VS p n c))) ∧ (cond (ltI (30 : Int) (Int.ofNat n))
 (CallP m E (FN 9) [] h11 (fun (v : Value) => (fun (h_ : H) => (∃ b : Bool, ((v = (VB b)) ∧ (cond b
 (N (VB true) h_)
 (N (VB false) h_)))))))
 (CallP m E (FN 10) [(VI (0 : Int)), (VI (0 : Int))] h11 (fun (v : Value) => (fun (h_ : H) => (∃ p1 : (Option Addr), (∃ n1 : Int, ((v = (VT [(VP p1), (VI n1)])) ∧ (CallP m E (FN 16) [(VP p1)] h_ (fun (v1 : Value) => (fun (h_1 : H) => (∃ n2 : Int, (∃ n3 : Int, (∃ p2 : (Option Addr), (∃ n4 : Nat, (∃ c1 : Nat, (∃ b : Bool, ((v1 = (VT [(VA [(VI n2), (VI n3)]), (VS p2 n4 c1), (VB b)])) ∧ (cond b
 (∀ h12 : H, ((h12 = (H.new h_1 (AObj.row [(VI (0 : Int)), (VI (0 : Int))] Bool.false Bool.false))) → (∃ h_2 : H, (((H.write h12 ⟨h_1.next, 0, none⟩ [(VI n2), (VI n3)]) = (some h_2)) ∧ (cond (p1).isNone
 (cond (n1 == (1 : Int))
 (∃ n5 : Int, (∃ n6 : Int, (∃ p3 : (Option Addr), (∃ n7 : Nat, (∃ c2 : Nat, (∃ n8 : Int, (∃ n9 : Int, (∃ n10 : Int, (∃ n11 : Int, (∃ n12 : Int, (∃ n13 : Int, (∃ n14 : Int, (((ld h_2 (some 10) ⟨h1.next, 0, none⟩) = (some (VA [(VI n5), (VI n6), (VS p3 n7 c2), (VI n8), (VI n9), (VI n10), (VI n11), (VI n12), (VI n13), (VI n14)]))) ∧ (CallP m E (FN 14) [(VP p1), (VA [(VI n5), (VI n6), (VS p3 n7 c2), (VI n8), (VI n9), (VI n10), (VI n11), (VI n12), (VI n13), (VI n14)])] h_2 (fun (v2 : Value) => (fun (h_3 : H) => (∃ n15 : Int, ((v2 = (VI n15)) ∧ (cond (n15 == (1 : Int))
 (CallP m E (FN 20) [(VP p1)] h_3 (fun (v3 : Value) => (fun (h_4 : H) => (∃ p4 : (Option Addr), (∃ n16 : Nat, (∃ c3 : Nat, ((v3 = (VS p4 n16 c3)) ∧ (cond ((Int.ofNat n16) == (0 : Int))
 (∃ n17 : Int, (∃ n18 : Int, (((ld h_4 (some 2) (addOff (addOff ⟨h1.next, 0, none⟩ 3) 4)) = (some (VA [(VI n17), (VI n18)]))) ∧ (CallP m E (FN 22) [(VP p1), (VA [(VI n17), (VI n18)])] h_4 (fun (v4 : Value) => (fun (h_5 : H) => (∃ p5 : (Option Addr), (∃ n19 : Nat, (∃ c4 : Nat, ((v4 = (VS p5 n19 c4)) ∧ (cond ((Int.ofNat n19) == (0 : Int))
 (cond ((Int.ofNat n4) == (0 : Int))
 (N (VB false) h_5)
 (N (VB false) h_5))
 (N (VB false) h_5))))))))))))
 (N (VB false) h_4)))))))))
 (N (VB false) h_3))))))))))))))))))))
 (N (VB false) h_2))
 (N (VB false) h_2))))))
 (∀ h12 : H, ((h12 = (H.new h_1 (AObj.row [(VI (0 : Int)), (VI (0 : Int))] Bool.false Bool.false))) → (∃ h_2 : H, (((H.write h12 ⟨h_1.next, 0, none⟩ [(VI n2), (VI n3)]) = (some h_2)) ∧ (cond (p1).isNone
 (cond (n1 == (1 : Int))
 (∃ n5 : Int, (∃ n6 : Int, (∃ p3 : (Option Addr), (∃ n7 : Nat, (∃ c2 : Nat, (∃ n8 : Int, (∃ n9 : Int, (∃ n10 : Int, (∃ n11 : Int, (∃ n12 : Int, (∃ n13 : Int, (∃ n14 : Int, (((ld h_2 (some 10) ⟨h1.next, 0, none⟩) = (some (VA [(VI n5), (VI n6), (VS p3 n7 c2), (VI n8), (VI n9), (VI n10), (VI n11), (VI n12), (VI n13), (VI n14)]))) ∧ (CallP m E (FN 14) [(VP p1), (VA [(VI n5), (VI n6), (VS p3 n7 c2), (VI n8), (VI n9), (VI n10), (VI n11), (VI n12), (VI n13), (VI n14)])] h_2 (fun (v2 : Value) => (fun (h_3 : H) => (∃ n15 : Int, ((v2 = (VI n15)) ∧ (cond (n15 == (1 : Int))
 (CallP m E (FN 20) [(VP p1)] h_3 (fun (v3 : Value) => (fun (h_4 : H) => (∃ p4 : (Option Addr), (∃ n16 : Nat, (∃ c3 : Nat, ((v3 = (VS p4 n16 c3)) ∧ (cond ((Int.ofNat n16) == (0 : Int))
 (∃ n17 : Int, (∃ n18 : Int, (((ld h_4 (some 2) (addOff (addOff ⟨h1.next, 0, none⟩ 3) 4)) = (some (VA [(VI n17), (VI n18)]))) ∧ (CallP m E (FN 22) [(VP p1), (VA [(VI n17), (VI n18)])] h_4 (fun (v4 : Value) => (fun (h_5 : H) => (∃ p5 : (Option Addr), (∃ n19 : Nat, (∃ c4 : Nat, ((v4 = (VS p5 n19 c4)) ∧ (cond ((Int.ofNat n19) == (0 : Int))
 (cond ((Int.ofNat n4) == (0 : Int))
 (∃ n20 : Int, (((ld h_5 none (addOff ⟨h1.next, 0, none⟩ 0)) = (some (VI n20))) ∧ (∃ p6 : (Option Addr), (∃ n21 : Nat, (∃ c5 : Nat, (((ld h_5 none (addOff ⟨h1.next, 0, none⟩ 2)) = (some (VS p6 n21 c5))) ∧ (∃ n22 : Int, (∃ n23 : Int, (∃ n24 : Int, (∃ n25 : Int, (∃ n26 : Int, (∃ n27 : Int, (∃ n28 : Int, (((ld h_5 (some 7) (addOff ⟨h1.next, 0, none⟩ 3)) = (some (VA [(VI n22), (VI n23), (VI n24), (VI n25), (VI n26), (VI n27), (VI n28)]))) ∧ (CallP m E (FN 12) [(VP p1), (VI n20), (VS p6 n21 c5), (VA [(VI n22), (VI n23), (VI n24), (VI n25), (VI n26), (VI n27), (VI n28)])] h_5 (fun (v5 : Value) => (fun (h_6 : H) => (∃ b1 : Bool, ((v5 = (VB b1)) ∧ (cond b1
 (N (VB false) h_6)
 (CallP m E (FN 9) [] h_6 (fun (v6 : Value) => (fun (h_7 : H) => (∃ b2 : Bool, ((v6 = (VB b2)) ∧ (cond b2
 (N (VB true) h_7)
 (N (VB false) h_7)))))))))))))))))))))))))))
 (N (VB false) h_5))
 (N (VB false) h_5))))))))))))
 (N (VB false) h_4)))))))))
 (N (VB false) h_3))))))))))))))))))))
 (N (VB false) h_2))
 (N (VB false) h_2))))))))))))))))))))))))))))))))
theorem w4 (m : Bool) (E : Env) (m00 : Int) (m01 : Int) (m02 : (Option Addr)) (m02n : Nat) (m02c : Nat) (m03 : Int) (m04 : Int) (m05 : Int) (m06 : Int) (m07 : Int) (m08 : Int) (m09 : Int) (h : H) (N : Value → H → Prop) : wpF m E (kz vk4) (az ann4) a4 [(VA [(VI m00), (VI m01), (VS m02 m02n m02c), (VI m03), (VI m04), (VI m05), (VI m06), (VI m07), (VI m08), (VI m09)])] h N = sh4 m E m00 m01 m02 m02n m02c m03 m04 m05 m06 m07 m08 m09 h N := by kernel_rfl
/-! duet/submit.New -/
def sh10 (sites : Int) (epoch : Int) (h : H) (N : Value → H → Prop) : Prop :=
 (∀ h1 : H, ((h1 = (H.enter h)) → (cond (ltI sites (1 : Int))
 (N (VT [(VP none), (VI (1 : Int))]) h1)
 (cond (ltI (16 : Int) sites)
 (N (VT [(VP none), (VI (1 : Int))]) h1)
 (cond (ltI epoch (0 : Int))
 (N (VT [(VP none), (VI (1 : Int))]) h1)
 (cond (ltI (4294967295 : Int) epoch)
 (N (VT [(VP none), (VI (1 : Int))]) h1)
 (∀ h11 : H, ((h11 = (H.new h1 (AObj.map [] 0))) → (∀ h12 : H, ((h12 = (H.new h11 (AObj.row [(VI sites), (VI epoch), (Value.map (some h1.next))] Bool.false Bool.false))) → (N (VT [(VP (some ⟨h11.next, 0, none⟩)), (VI (0 : Int))]) h12)))))))))))
theorem w10 (m : Bool) (E : Env) (sites : Int) (epoch : Int) (h : H) (N : Value → H → Prop) : wpF m E (kz vk10) (az ann10) a10 [(VI sites), (VI epoch)] h N = sh10 sites epoch h N := by kernel_rfl
/-! (*duet/submit.Barrier).May -/
def sh12 (E : Env) (b : (Option Addr)) (site : Int) (know : (Option Addr)) (known : Nat) (knowc : Nat) (o0 : Int) (o1 : Int) (o2 : Int) (o3 : Int) (o4 : Int) (o5 : Int) (o6 : Int) (h : H) (N : Value → H → Prop) : Prop :=
 (∀ h1 : H, ((h1 = (H.enter h)) → (∀ h11 : H, ((h11 = (H.new h1 (AObj.row [(VI o0), (VI o1), (VI o2), (VI o3), (VI o4), (VI o5), (VI o6)] Bool.false Bool.false))) → (cond (ltI site (0 : Int))
 (N (VB false) h11)
 (cond (!(ltI site (Int.ofNat known)))
 (N (VB false) h11)
 (optP know (fun (a : Addr) => ((((0 : Int) ≤ site) ∧ (site < (Int.ofNat known))) ∧ (∃ n : Int, (((ld h11 none ⟨(Addr.block a), ((Addr.off a) + ((Int.toNat site) * 1)), none⟩) = (some (VI n))) ∧ (cond (n == (4294967295 : Int))
 (N (VB false) h11)
 (∀ h12 : H, ((h12 = (H.skipTo h11 (h11.next + 16))) → (optP know (fun (a1 : Addr) => ((((0 : Int) ≤ site) ∧ (site < (Int.ofNat known))) ∧ (∃ n1 : Int, (((ld h12 none ⟨(Addr.block a1), ((Addr.off a1) + ((Int.toNat site) * 1)), none⟩) = (some (VI n1))) ∧ (∃ n2 : Int, (∃ n3 : Int, (∃ n4 : Int, (∃ n5 : Int, (∃ n6 : Int, (∃ n7 : Int, (∃ n8 : Int, (((ld h12 (some 7) ⟨h1.next, 0, none⟩) = (some (VA [(VI n2), (VI n3), (VI n4), (VI n5), (VI n6), (VI n7), (VI n8)]))) ∧ (CallP Bool.true E (FN 28) [(VP b), (VA [(VI site), (VI (IntKind.wrap IntKind.i64 (n1 + (1 : Int)))), (VS know known knowc), (VI n2), (VI n3), (VI n4), (VI n5), (VI n6), (VI n7), (VI n8)])] h12 (fun (v : Value) => (fun (h_ : H) => (∃ p : (Option Addr), (∃ n9 : Int, ((v = (VT [(VP p), (VI n9)])) ∧ (cond (n9 == (0 : Int))
 (N (VB true) h_)
 (N (VB false) h_)))))))))))))))))))))))))))))))))))
theorem w12 (m : Bool) (E : Env) (b : (Option Addr)) (site : Int) (know : (Option Addr)) (known : Nat) (knowc : Nat) (o0 : Int) (o1 : Int) (o2 : Int) (o3 : Int) (o4 : Int) (o5 : Int) (o6 : Int) (h : H) (N : Value → H → Prop) : wpF m E (kz vk12) (az ann12) a12 [(VP b), (VI site), (VS know known knowc), (VA [(VI o0), (VI o1), (VI o2), (VI o3), (VI o4), (VI o5), (VI o6)])] h N = sh12 E b site know known knowc o0 o1 o2 o3 o4 o5 o6 h N := by kernel_rfl
/-! (*duet/submit.Barrier).Apply -/
def sh14 (m : Bool) (E : Env) (b : (Option Addr)) (m00 : Int) (m01 : Int) (m02 : (Option Addr)) (m02n : Nat) (m02c : Nat) (m03 : Int) (m04 : Int) (m05 : Int) (m06 : Int) (m07 : Int) (m08 : Int) (m09 : Int) (h : H) (N : Value → H → Prop) : Prop :=
 (∀ h1 : H, ((h1 = (H.enter h)) → (∀ h11 : H, ((h11 = (H.new h1 (AObj.row [(VI m00), (VI m01), (VS m02 m02n m02c), (VI m03), (VI m04), (VI m05), (VI m06), (VI m07), (VI m08), (VI m09)] Bool.false Bool.false))) → (∃ n : Int, (∃ n1 : Int, (∃ p : (Option Addr), (∃ n2 : Nat, (∃ c : Nat, (∃ n3 : Int, (∃ n4 : Int, (∃ n5 : Int, (∃ n6 : Int, (∃ n7 : Int, (∃ n8 : Int, (∃ n9 : Int, (((ld h11 (some 10) ⟨h1.next, 0, none⟩) = (some (VA [(VI n), (VI n1), (VS p n2 c), (VI n3), (VI n4), (VI n5), (VI n6), (VI n7), (VI n8), (VI n9)]))) ∧ (CallP m E (FN 28) [(VP b), (VA [(VI n), (VI n1), (VS p n2 c), (VI n3), (VI n4), (VI n5), (VI n6), (VI n7), (VI n8), (VI n9)])] h11 (fun (v : Value) => (fun (h_ : H) => (∃ p1 : (Option Addr), (∃ n10 : Int, ((v = (VT [(VP p1), (VI n10)])) ∧ (cond (!(n10 == (0 : Int)))
 (N (VI n10) h_)
 (∃ n11 : Int, (((ld h_ none (addOff (addOff ⟨h1.next, 0, none⟩ 3) 0)) = (some (VI n11))) ∧ (cond (n11 == (6 : Int))
 (∃ p2 : (Option Addr), (∃ n12 : Nat, (∃ c1 : Nat, (((ld h_ none (addOff ⟨h1.next, 0, none⟩ 2)) = (some (VS p2 n12 c1))) ∧ (CallP m E (FN 30) [(VS p2 n12 c1)] h_ (fun (v1 : Value) => (fun (h_1 : H) => (∃ p3 : (Option Addr), (∃ n13 : Nat, (∃ c2 : Nat, ((v1 = (VS p3 n13 c2)) ∧ (∃ n14 : Int, (((ld h_1 none (addOff ⟨h1.next, 0, none⟩ 0)) = (some (VI n14))) ∧ (∃ n15 : Int, (((ld h_1 none (addOff ⟨h1.next, 0, none⟩ 1)) = (some (VI n15))) ∧ (optP p3 (fun (a : Addr) => ((((0 : Int) ≤ n14) ∧ (n14 < (Int.ofNat n13))) ∧ (∃ h_2 : H, (((H.write h_1 ⟨(Addr.block a), ((Addr.off a) + ((Int.toNat n14) * 1)), none⟩ [(VI n15)]) = (some h_2)) ∧ (∀ h12 : H, ((h12 = (H.skipTo h_2 (h_2.next + 12))) → (optP b (fun (a1 : Addr) => (∃ p4 : (Option Nat), (((ld h12 none (addOff a1 2)) = (some (Value.map p4))) ∧ (∃ n16 : Int, (∃ n17 : Int, (((ld h12 (some 2) (addOff (addOff ⟨h1.next, 0, none⟩ 3) 2)) = (some (VA [(VI n16), (VI n17)]))) ∧ (∀ h13 : H, ((h13 = (H.put h12 (h_2.next + ((((((((0 + 1) + 1) + 1) + 1) + 1) + 1) + 1) + 1)) (AObj.map [] 0))) → (∀ h14 : H, ((h14 = (H.put h13 (h_2.next + ((((((((((0 + 1) + 1) + 1) + 1) + 1) + 1) + 1) + 1) + 1) + 1)) (AObj.row [(VS p3 n13 c2), (Value.map (some (h_2.next + ((((((((0 + 1) + 1) + 1) + 1) + 1) + 1) + 1) + 1)))), (VI (0 : Int))] Bool.false Bool.false))) → (Res Bool.true (actV h14 (AOp.mapUp (EK.flat [LK.int, LK.int]) (Operand.const (Value.map p4)) (Operand.const (VA [(VI n16), (VI n17)])) (Operand.const (VP (some ⟨(h_2.next + ((((((((((0 + 1) + 1) + 1) + 1) + 1) + 1) + 1) + 1) + 1) + 1)), 0, none⟩))))) (fun (r : (Prod Value H)) => (∃ v2 : Value, (((r).fst = v2) ∧ (N (VI (0 : Int)) (r).snd))))))))))))))))))))))))))))))))))))))
 (∃ n12 : Int, (((ld h_ none (addOff (addOff ⟨h1.next, 0, none⟩ 3) 0)) = (some (VI n12))) ∧ (cond (n12 == (7 : Int))
 (∀ h12 : H, ((h12 = (H.skipTo h_ (h_.next + 9))) → (optP p1 (fun (a : Addr) => (∃ p2 : (Option Nat), (((ld h12 none (addOff a 1)) = (some (Value.map p2))) ∧ (∃ n13 : Int, (((ld h12 none (addOff ⟨h1.next, 0, none⟩ 0)) = (some (VI n13))) ∧ (∃ n14 : Int, (((ld h12 none (addOff ⟨h1.next, 0, none⟩ 1)) = (some (VI n14))) ∧ (Res Bool.true (actV h12 (AOp.mapUp (EK.leaf LK.int) (Operand.const (Value.map p2)) (Operand.const (VI n13)) (Operand.const (VI n14)))) (fun (r : (Prod Value H)) => (∃ v1 : Value, (((r).fst = v1) ∧ (N (VI (0 : Int)) (r).snd)))))))))))))))
 (∃ n13 : Int, (((ld h_ none (addOff ⟨h1.next, 0, none⟩ 1)) = (some (VI n13))) ∧ (optP p1 (fun (a : Addr) => (∃ h_1 : H, (((H.write h_ (addOff a 2) [(VI n13)]) = (some h_1)) ∧ (N (VI (0 : Int)) h_1)))))))))))))))))))))))))))))))))))))
theorem w14 (m : Bool) (E : Env) (b : (Option Addr)) (m00 : Int) (m01 : Int) (m02 : (Option Addr)) (m02n : Nat) (m02c : Nat) (m03 : Int) (m04 : Int) (m05 : Int) (m06 : Int) (m07 : Int) (m08 : Int) (m09 : Int) (h : H) (N : Value → H → Prop) : wpF m E (kz vk14) (az ann14) a14 [(VP b), (VA [(VI m00), (VI m01), (VS m02 m02n m02c), (VI m03), (VI m04), (VI m05), (VI m06), (VI m07), (VI m08), (VI m09)])] h N = sh14 m E b m00 m01 m02 m02n m02c m03 m04 m05 m06 m07 m08 m09 h N := by kernel_rfl
/-! (*duet/submit.Barrier).Done -/
def sh16 (m : Bool) (E : Env) (b : (Option Addr)) (h : H) (N : Value → H → Prop) : Prop :=
 (∀ h1 : H, ((h1 = (H.enter h)) → (∀ h11 : H, ((h11 = (H.new h1 (AObj.row [(VI (0 : Int)), (VI (0 : Int))] Bool.false Bool.false))) → (CallP m E (FN 35) [(VP b)] h11 (fun (v : Value) => (fun (h_ : H) => (∃ p : (Option Addr), (∃ n : Nat, (∃ c : Nat, ((v = (VS p n c)) ∧ (LoopV m E (loopAt a16 0) (lann ann16 0) [(VP b), (VP (some ⟨h1.next, 0, none⟩)), (VS p n c), (VI (Int.ofNat n)), (VI (0 : Int))] [] none h_ (fun (x : AX) => (fun (vs : (List Value)) => (fun (h2 : H) => (∀ _ : Tm, (((x = (AX.ext 0)) ∧ (∃ p1 : (Option Addr), ((vs = [(VP p1)]) ∧ (optP p1 (fun (a : Addr) => (∃ h_1 : H, (((H.write h2 a [(VI (0 : Int)), (VI (0 : Int))]) = (some h_1)) ∧ (optP p1 (fun (a1 : Addr) => (∃ v1 : Value, (((ld h_1 (some 2) a1) = (some v1)) ∧ (N (VT [v1, (VS none 0 0), (VB false)]) h_1)))))))))))) ∨ ((x = AX.ret) ∧ (∃ p1 : (Option Addr), (∃ p2 : (Option Addr), (∃ n1 : Nat, (∃ c1 : Nat, (∃ b1 : Bool, ((vs = [(VP p1), (VS p2 n1 c1), (VB b1)]) ∧ (cond b1
 (optP p1 (fun (a : Addr) => (∃ v1 : Value, (((ld h2 (some 2) a) = (some v1)) ∧ (N (VT [v1, (VS p2 n1 c1), (VB true)]) h2)))))
 (optP p1 (fun (a : Addr) => (∃ v1 : Value, (((ld h2 (some 2) a) = (some v1)) ∧ (N (VT [v1, (VS p2 n1 c1), (VB false)]) h2))))))))))))))))))))))))))))))
theorem w16 (m : Bool) (E : Env) (b : (Option Addr)) (h : H) (N : Value → H → Prop) : wpF m E (kz vk16) (az ann16) a16 [(VP b)] h N = sh16 m E b h N := by kernel_rfl
def shL16_0 (E : Env) (ds : List Nat) (rnd : Option Nat) (b : (Option Addr)) (t2 : (Option Addr)) (t9 : (Option Addr)) (t9n : Nat) (t9c : Nat) (t10 : Int) (t11 : Int) (h : H) (Q : AX → List Value → H → Prop) : Prop :=
 (cond (ltI t11 t10)
 (optP t9 (fun (a : Addr) => ((((0 : Int) ≤ t11) ∧ (t11 < (Int.ofNat t9n))) ∧ (∃ n : Int, (∃ n1 : Int, (((ld h (some 2) ⟨(Addr.block a), ((Addr.off a) + ((Int.toNat t11) * 2)), none⟩) = (some (VA [(VI n), (VI n1)]))) ∧ (∀ h1 : H, ((h1 = (H.new h (AObj.row [(VI (0 : Int)), (VI (0 : Int))] Bool.false Bool.false))) → (∃ h_ : H, (((H.write h1 ⟨h.next, 0, none⟩ [(VI n), (VI n1)]) = (some h_)) ∧ (∀ h11 : H, ((h11 = (H.skipTo h_ (h_.next + 7))) → (optP b (fun (a1 : Addr) => (∃ p : (Option Nat), (((ld h11 none (addOff a1 2)) = (some (Value.map p))) ∧ (∃ n2 : Int, (∃ n3 : Int, (((ld h11 (some 2) ⟨h.next, 0, none⟩) = (some (VA [(VI n2), (VI n3)]))) ∧ (∃ p1 : (Option Addr), (((readV h11 (AOp.lookup (EK.flat [LK.int, LK.int]) (VP none) Bool.false (Operand.const (Value.map p)) (Operand.const (VA [(VI n2), (VI n3)])))) = (some (VP p1))) ∧ (∀ h12 : H, ((h12 = (H.skipTo h11 (h11.next + 10))) → (optP p1 (fun (a2 : Addr) => (∃ p2 : (Option Nat), (((ld h12 none (addOff a2 1)) = (some (Value.map p2))) ∧ (∃ n4 : Int, (((readV h12 (AOp.lenMap (Operand.const (Value.map p2)))) = (some (VI n4))) ∧ (optP b (fun (a3 : Addr) => (∃ n5 : Int, (((ld h12 none (addOff a3 0)) = (some (VI n5))) ∧ (cond (n4 == n5)
 (∀ h13 : H, ((h13 = (H.skipTo h12 (h12.next + 9))) → (∃ n6 : Int, (∃ n7 : Int, (((ld h13 (some 2) ⟨h.next, 0, none⟩) = (some (VA [(VI n6), (VI n7)]))) ∧ (optP p1 (fun (a4 : Addr) => (∃ p3 : (Option Addr), (∃ n8 : Nat, (∃ c : Nat, (((ld h13 none (addOff a4 0)) = (some (VS p3 n8 c))) ∧ (CallP Bool.true E (FN 30) [(VS p3 n8 c)] h13 (fun (v : Value) => (fun (h_1 : H) => (∃ p4 : (Option Addr), (∃ n9 : Nat, (∃ c1 : Nat, ((v = (VS p4 n9 c1)) ∧ (optP t2 (fun (a5 : Addr) => (∃ h_2 : H, (((H.write h_1 a5 [(VI n6), (VI n7)]) = (some h_2)) ∧ ((∃ u : Value, (((readV h_1 (AOp.load (some 2) (Operand.const (VP (some ⟨h.next, 0, none⟩))))) = (some u)) ∧ ((veq u (VA [(VI n6), (VI n7)])) = Bool.true))) ∧ ((ds = ds) ∧ ((rnd = rnd) ∧ (Q AX.ret [(VP t2), (VS p4 n9 c1), (VB true)] h_2))))))))))))))))))))))))))
 ((ds = ds) ∧ ((rnd = rnd) ∧ (Q AX.nrm [(VP b), (VP t2), (VS t9 t9n t9c), (VI t10), (VI (IntKind.wrap IntKind.i64 (t11 + (1 : Int))))] h12)))))))))))))))))))))))))))))))))))))
 ((ds = ds) ∧ ((rnd = rnd) ∧ (Q (AX.ext 0) [(VP t2)] h))))
theorem wL16_0 (m : Bool) (E : Env) (tm : Tm) (ds : List Nat) (rnd : Option Nat) (b : (Option Addr)) (t2 : (Option Addr)) (t9 : (Option Addr)) (t9n : Nat) (t9c : Nat) (t10 : Int) (t11 : Int) (h : H) (Q : AX → List Value → H → Prop) : wpBody m E (kz vk16) (az ann16) 0 (loopAt a16 0) (lann ann16 0) [(VP b), (VP t2), (VS t9 t9n t9c), (VI t10), (VI t11)] tm ds rnd h Q = shL16_0 E ds rnd b t2 t9 t9n t9c t10 t11 h Q := by kernel_rfl
/-! (*duet/submit.Barrier).Open -/
def sh20 (m : Bool) (E : Env) (b : (Option Addr)) (h : H) (N : Value → H → Prop) : Prop :=
 (∀ h1 : H, ((h1 = (H.enter h)) → (∀ h11 : H, ((h11 = (H.new h1 (AObj.row [(VP b)] Bool.false Bool.false))) → (∃ p : (Option Addr), (((ld h11 none ⟨h1.next, 0, none⟩) = (some (VP p))) ∧ (CallP m E (FN 35) [(VP p)] h11 (fun (v : Value) => (fun (h_ : H) => (∃ p1 : (Option Addr), (∃ n : Nat, (∃ c : Nat, ((v = (VS p1 n c)) ∧ (CallP m E (FN 37) [(VS p1 n c), (FC 38 [(VP (some ⟨h1.next, 0, none⟩))])] h_ (fun (v1 : Value) => (fun (h_1 : H) => (∃ p2 : (Option Addr), (∃ n1 : Nat, (∃ c1 : Nat, ((v1 = (VS p2 n1 c1)) ∧ (N (VS p2 n1 c1) h_1)))))))))))))))))))))
theorem w20 (m : Bool) (E : Env) (b : (Option Addr)) (h : H) (N : Value → H → Prop) : wpF m E (kz vk20) (az ann20) a20 [(VP b)] h N = sh20 m E b h N := by kernel_rfl
/-! (*duet/submit.Barrier).Acks -/
def sh22 (E : Env) (b : (Option Addr)) (x00 : Int) (x01 : Int) (h : H) (N : Value → H → Prop) : Prop :=
 (∀ h1 : H, ((h1 = (H.enter h)) → (∀ h11 : H, ((h11 = (H.new h1 (AObj.row [(VI x00), (VI x01)] Bool.false Bool.false))) → (∀ h12 : H, ((h12 = (H.skipTo h11 (h11.next + 11))) → (cond (b).isNone
 (N (VS none 0 0) h12)
 (optP b (fun (a : Addr) => (∃ p : (Option Nat), (((ld h12 none (addOff a 2)) = (some (Value.map p))) ∧ (∃ n : Int, (∃ n1 : Int, (((ld h12 (some 2) ⟨h1.next, 0, none⟩) = (some (VA [(VI n), (VI n1)]))) ∧ (∃ p1 : (Option Addr), (((readV h12 (AOp.lookup (EK.flat [LK.int, LK.int]) (VP none) Bool.false (Operand.const (Value.map p)) (Operand.const (VA [(VI n), (VI n1)])))) = (some (VP p1))) ∧ (cond (p1).isNone
 (N (VS none 0 0) h12)
 (∀ h13 : H, ((h13 = (H.skipTo h12 (h12.next + 12))) → (optP b (fun (a1 : Addr) => (∃ p2 : (Option Nat), (((ld h13 none (addOff a1 2)) = (some (Value.map p2))) ∧ (∃ n2 : Int, (∃ n3 : Int, (((ld h13 (some 2) ⟨h1.next, 0, none⟩) = (some (VA [(VI n2), (VI n3)]))) ∧ (∃ p3 : (Option Addr), (((readV h13 (AOp.lookup (EK.flat [LK.int, LK.int]) (VP none) Bool.false (Operand.const (Value.map p2)) (Operand.const (VA [(VI n2), (VI n3)])))) = (some (VP p3))) ∧ (optP p3 (fun (a2 : Addr) => (∃ p4 : (Option Nat), (((ld h13 none (addOff a2 1)) = (some (Value.map p4))) ∧ (CallP Bool.true E (FN 41) [(Value.map p4)] h13 (fun (v : Value) => (fun (h_ : H) => (∃ f : Fn, (∃ a3 : (Array Value), (∃ c : (Array Value), ((v = (Value.func f a3 c)) ∧ (CallP Bool.true E (FN 40) [(Value.func f a3 c)] h_ (fun (v1 : Value) => (fun (h_1 : H) => (∃ p5 : (Option Addr), (∃ n4 : Nat, (∃ c1 : Nat, ((v1 = (VS p5 n4 c1)) ∧ (N (VS p5 n4 c1) h_1)))))))))))))))))))))))))))))))))))))))))))))))
theorem w22 (m : Bool) (E : Env) (b : (Option Addr)) (x00 : Int) (x01 : Int) (h : H) (N : Value → H → Prop) : wpF m E (kz vk22) (az ann22) a22 [(VP b), (VA [(VI x00), (VI x01)])] h N = sh22 E b x00 x01 h N := by kernel_rfl
/-! (*duet/submit.Barrier).check -/
def sh28 (m : Bool) (E : Env) (b : (Option Addr)) (m00 : Int) (m01 : Int) (m02 : (Option Addr)) (m02n : Nat) (m02c : Nat) (m03 : Int) (m04 : Int) (m05 : Int) (m06 : Int) (m07 : Int) (m08 : Int) (m09 : Int) (h : H) (N : Value → H → Prop) : Prop :=
 (∀ h1 : H, ((h1 = (H.enter h)) → (∀ h11 : H, ((h11 = (H.new h1 (AObj.row [(VI m00), (VI m01), (VS m02 m02n m02c), (VI m03), (VI m04), (VI m05), (VI m06), (VI m07), (VI m08), (VI m09)] Bool.false Bool.false))) → (∀ h12 : H, ((h12 = (H.skipTo h11 (h11.next + 33))) → (cond (b).isNone
 (N (VT [(VP none), (VI (1 : Int))]) h12)
 (∃ n : Int, (∃ n1 : Int, (∃ p : (Option Addr), (∃ n2 : Nat, (∃ c : Nat, (∃ n3 : Int, (∃ n4 : Int, (∃ n5 : Int, (∃ n6 : Int, (∃ n7 : Int, (∃ n8 : Int, (∃ n9 : Int, (((ld h12 (some 10) ⟨h1.next, 0, none⟩) = (some (VA [(VI n), (VI n1), (VS p n2 c), (VI n3), (VI n4), (VI n5), (VI n6), (VI n7), (VI n8), (VI n9)]))) ∧ (CallP Bool.true E (FN 43) [(VA [(VI n), (VI n1), (VS p n2 c), (VI n3), (VI n4), (VI n5), (VI n6), (VI n7), (VI n8), (VI n9)])] h12 (fun (v : Value) => (fun (h_ : H) => (∃ n10 : Int, ((v = (VI n10)) ∧ (cond (!(n10 == (0 : Int)))
 (N (VT [(VP none), (VI (1 : Int))]) h_)
 (∃ p1 : (Option Addr), (∃ n11 : Nat, (∃ c1 : Nat, (((ld h_ none (addOff ⟨h1.next, 0, none⟩ 2)) = (some (VS p1 n11 c1))) ∧ (optP b (fun (a : Addr) => (∃ n12 : Int, (((ld h_ none (addOff a 0)) = (some (VI n12))) ∧ (cond (!((Int.ofNat n11) == n12))
 (N (VT [(VP none), (VI (1 : Int))]) h_)
 (∃ n13 : Int, (((ld h_ none (addOff (addOff ⟨h1.next, 0, none⟩ 3) 0)) = (some (VI n13))) ∧ (cond (ltI n13 (6 : Int))
 (N (VT [(VP none), (VI (1 : Int))]) h_)
 (∃ n14 : Int, (((ld h_ none (addOff (addOff ⟨h1.next, 0, none⟩ 3) 1)) = (some (VI n14))) ∧ (optP b (fun (a1 : Addr) => (∃ n15 : Int, (((ld h_ none (addOff a1 1)) = (some (VI n15))) ∧ (cond (!(n14 == n15))
 (N (VT [(VP none), (VI (1 : Int))]) h_)
 (∃ n16 : Int, (((ld h_ none (addOff (addOff ⟨h1.next, 0, none⟩ 3) 0)) = (some (VI n16))) ∧ (cond (n16 == (6 : Int))
 (∀ h13 : H, ((h13 = (H.skipTo h_ (h_.next + 10))) → (optP b (fun (a2 : Addr) => (∃ p2 : (Option Nat), (((ld h13 none (addOff a2 2)) = (some (Value.map p2))) ∧ (∃ n17 : Int, (∃ n18 : Int, (((ld h13 (some 2) (addOff (addOff ⟨h1.next, 0, none⟩ 3) 2)) = (some (VA [(VI n17), (VI n18)]))) ∧ (∃ p3 : (Option Addr), (((readV h13 (AOp.lookup (EK.flat [LK.int, LK.int]) (VP none) Bool.false (Operand.const (Value.map p2)) (Operand.const (VA [(VI n17), (VI n18)])))) = (some (VP p3))) ∧ (cond (!(p3).isNone)
 (N (VT [(VP none), (VI (7 : Int))]) h13)
 (optP b (fun (a3 : Addr) => (∃ p4 : (Option Nat), (((ld h13 none (addOff a3 2)) = (some (Value.map p4))) ∧ (∃ n19 : Int, (((readV h13 (AOp.lenMap (Operand.const (Value.map p4)))) = (some (VI n19))) ∧ (cond (!(ltI n19 (100 : Int)))
 (N (VT [(VP none), (VI (5 : Int))]) h13)
 (N (VT [(VP none), (VI (0 : Int))]) h13))))))))))))))))))))
 (∀ h13 : H, ((h13 = (H.skipTo h_ (h_.next + 14))) → (optP b (fun (a2 : Addr) => (∃ p2 : (Option Nat), (((ld h13 none (addOff a2 2)) = (some (Value.map p2))) ∧ (∃ n17 : Int, (∃ n18 : Int, (((ld h13 (some 2) (addOff (addOff ⟨h1.next, 0, none⟩ 3) 4)) = (some (VA [(VI n17), (VI n18)]))) ∧ (∃ p3 : (Option Addr), (((readV h13 (AOp.lookup (EK.flat [LK.int, LK.int]) (VP none) Bool.false (Operand.const (Value.map p2)) (Operand.const (VA [(VI n17), (VI n18)])))) = (some (VP p3))) ∧ (∃ n19 : Int, (((ld h13 none (addOff (addOff (addOff ⟨h1.next, 0, none⟩ 3) 4) 1)) = (some (VI n19))) ∧ (∀ h14 : H, ((h14 = (H.skipTo h13 (h13.next + 23))) → (cond (p3).isNone
 (N (VT [(VP none), (VI (6 : Int))]) h14)
 (∃ n20 : Int, (((ld h14 none (addOff (addOff ⟨h1.next, 0, none⟩ 3) 0)) = (some (VI n20))) ∧ (cond (n20 == (7 : Int))
 (∃ p4 : (Option Addr), (∃ n21 : Nat, (∃ c2 : Nat, (((ld h14 none (addOff ⟨h1.next, 0, none⟩ 2)) = (some (VS p4 n21 c2))) ∧ (optP p4 (fun (a3 : Addr) => ((((0 : Int) ≤ n19) ∧ (n19 < (Int.ofNat n21))) ∧ (∃ n22 : Int, (((ld h14 none ⟨(Addr.block a3), ((Addr.off a3) + ((Int.toNat n19) * 1)), none⟩) = (some (VI n22))) ∧ (optP p3 (fun (a4 : Addr) => (∃ p5 : (Option Addr), (∃ n23 : Nat, (∃ c3 : Nat, (((ld h14 none (addOff a4 0)) = (some (VS p5 n23 c3))) ∧ (optP p5 (fun (a5 : Addr) => ((((0 : Int) ≤ n19) ∧ (n19 < (Int.ofNat n23))) ∧ (∃ n24 : Int, (((ld h14 none ⟨(Addr.block a5), ((Addr.off a5) + ((Int.toNat n19) * 1)), none⟩) = (some (VI n24))) ∧ (cond (ltI n22 n24)
 (N (VT [(VP none), (VI (6 : Int))]) h14)
 (∀ h15 : H, ((h15 = (H.skipTo h14 (h14.next + 14))) → (∃ n25 : Int, (((ld h15 none (addOff ⟨h1.next, 0, none⟩ 0)) = (some (VI n25))) ∧ (cond (n19 == n25)
 (optP p3 (fun (a6 : Addr) => (∃ p6 : (Option Nat), (((ld h15 none (addOff a6 1)) = (some (Value.map p6))) ∧ (∃ n26 : Int, (((ld h15 none (addOff ⟨h1.next, 0, none⟩ 0)) = (some (VI n26))) ∧ (∃ n27 : Int, (((readV h15 (AOp.lookup (EK.leaf LK.int) (VI (0 : Int)) Bool.false (Operand.const (Value.map p6)) (Operand.const (VI n26)))) = (some (VI n27))) ∧ (cond (ltI (0 : Int) n27)
 (∃ n28 : Int, (((ld h15 none (addOff (addOff ⟨h1.next, 0, none⟩ 3) 0)) = (some (VI n28))) ∧ (cond (n28 == (8 : Int))
 (N (VT [(VP none), (VI (8 : Int))]) h15)
 (∃ n29 : Int, (((ld h15 none (addOff (addOff ⟨h1.next, 0, none⟩ 3) 0)) = (some (VI n29))) ∧ (cond (n29 == (8 : Int))
 (optP p3 (fun (a7 : Addr) => (∃ n30 : Int, (((ld h15 none (addOff a7 2)) = (some (VI n30))) ∧ (cond (ltI (0 : Int) n30)
 (N (VT [(VP none), (VI (7 : Int))]) h15)
 (∃ n31 : Int, (((ld h15 none (addOff (addOff ⟨h1.next, 0, none⟩ 3) 0)) = (some (VI n31))) ∧ (cond (n31 == (7 : Int))
 (N (VT [(VP none), (VI (7 : Int))]) h15)
 (∃ n32 : Int, (((ld h15 none (addOff (addOff ⟨h1.next, 0, none⟩ 3) 0)) = (some (VI n32))) ∧ (cond (n32 == (7 : Int))
 (optP p3 (fun (a8 : Addr) => (∃ n33 : Int, (((ld h15 none (addOff a8 2)) = (some (VI n33))) ∧ (cond (ltI (0 : Int) n33)
 (N (VT [(VP none), (VI (8 : Int))]) h15)
 (∃ n34 : Int, (∃ n35 : Int, (∃ p7 : (Option Addr), (∃ n36 : Nat, (∃ c4 : Nat, (∃ n37 : Int, (∃ n38 : Int, (∃ n39 : Int, (∃ n40 : Int, (∃ n41 : Int, (∃ n42 : Int, (∃ n43 : Int, (((ld h15 (some 10) ⟨h1.next, 0, none⟩) = (some (VA [(VI n34), (VI n35), (VS p7 n36 c4), (VI n37), (VI n38), (VI n39), (VI n40), (VI n41), (VI n42), (VI n43)]))) ∧ (CallP m E (FN 52) [(VP b), (VP p3), (VA [(VI n34), (VI n35), (VS p7 n36 c4), (VI n37), (VI n38), (VI n39), (VI n40), (VI n41), (VI n42), (VI n43)])] h15 (fun (v1 : Value) => (fun (h_1 : H) => (∃ b1 : Bool, ((v1 = (VB b1)) ∧ (cond b1
 (∃ n44 : Int, (((ld h_1 none (addOff (addOff ⟨h1.next, 0, none⟩ 3) 0)) = (some (VI n44))) ∧ (cond (n44 == (7 : Int))
 (∃ n45 : Int, (∃ n46 : Int, (∃ p8 : (Option Addr), (∃ n47 : Nat, (∃ c5 : Nat, (∃ n48 : Int, (∃ n49 : Int, (∃ n50 : Int, (∃ n51 : Int, (∃ n52 : Int, (∃ n53 : Int, (∃ n54 : Int, (((ld h_1 (some 10) ⟨h1.next, 0, none⟩) = (some (VA [(VI n45), (VI n46), (VS p8 n47 c5), (VI n48), (VI n49), (VI n50), (VI n51), (VI n52), (VI n53), (VI n54)]))) ∧ (CallP m E (FN 53) [(VP b), (VA [(VI n45), (VI n46), (VS p8 n47 c5), (VI n48), (VI n49), (VI n50), (VI n51), (VI n52), (VI n53), (VI n54)])] h_1 (fun (v2 : Value) => (fun (h_2 : H) => (∃ b2 : Bool, ((v2 = (VB b2)) ∧ (cond b2
 (N (VT [(VP none), (VI (8 : Int))]) h_2)
 (N (VT [(VP p3), (VI (0 : Int))]) h_2))))))))))))))))))))
 (N (VT [(VP p3), (VI (0 : Int))]) h_1))))
 (N (VT [(VP none), (VI (8 : Int))]) h_1)))))))))))))))))))))))))
 (∃ n33 : Int, (((ld h15 none (addOff (addOff ⟨h1.next, 0, none⟩ 3) 0)) = (some (VI n33))) ∧ (cond (n33 == (7 : Int))
 (∃ n34 : Int, (∃ n35 : Int, (∃ p7 : (Option Addr), (∃ n36 : Nat, (∃ c4 : Nat, (∃ n37 : Int, (∃ n38 : Int, (∃ n39 : Int, (∃ n40 : Int, (∃ n41 : Int, (∃ n42 : Int, (∃ n43 : Int, (((ld h15 (some 10) ⟨h1.next, 0, none⟩) = (some (VA [(VI n34), (VI n35), (VS p7 n36 c4), (VI n37), (VI n38), (VI n39), (VI n40), (VI n41), (VI n42), (VI n43)]))) ∧ (CallP m E (FN 53) [(VP b), (VA [(VI n34), (VI n35), (VS p7 n36 c4), (VI n37), (VI n38), (VI n39), (VI n40), (VI n41), (VI n42), (VI n43)])] h15 (fun (v1 : Value) => (fun (h_1 : H) => (∃ b1 : Bool, ((v1 = (VB b1)) ∧ (cond b1
 (N (VT [(VP none), (VI (8 : Int))]) h_1)
 (N (VT [(VP p3), (VI (0 : Int))]) h_1))))))))))))))))))))
 (N (VT [(VP p3), (VI (0 : Int))]) h15)))))))))))))))
 (∃ n30 : Int, (((ld h15 none (addOff (addOff ⟨h1.next, 0, none⟩ 3) 0)) = (some (VI n30))) ∧ (cond (n30 == (7 : Int))
 (N (VT [(VP none), (VI (7 : Int))]) h15)
 (∃ n31 : Int, (((ld h15 none (addOff (addOff ⟨h1.next, 0, none⟩ 3) 0)) = (some (VI n31))) ∧ (cond (n31 == (7 : Int))
 (optP p3 (fun (a7 : Addr) => (∃ n32 : Int, (((ld h15 none (addOff a7 2)) = (some (VI n32))) ∧ (cond (ltI (0 : Int) n32)
 (N (VT [(VP none), (VI (8 : Int))]) h15)
 (∃ n33 : Int, (∃ n34 : Int, (∃ p7 : (Option Addr), (∃ n35 : Nat, (∃ c4 : Nat, (∃ n36 : Int, (∃ n37 : Int, (∃ n38 : Int, (∃ n39 : Int, (∃ n40 : Int, (∃ n41 : Int, (∃ n42 : Int, (((ld h15 (some 10) ⟨h1.next, 0, none⟩) = (some (VA [(VI n33), (VI n34), (VS p7 n35 c4), (VI n36), (VI n37), (VI n38), (VI n39), (VI n40), (VI n41), (VI n42)]))) ∧ (CallP m E (FN 52) [(VP b), (VP p3), (VA [(VI n33), (VI n34), (VS p7 n35 c4), (VI n36), (VI n37), (VI n38), (VI n39), (VI n40), (VI n41), (VI n42)])] h15 (fun (v1 : Value) => (fun (h_1 : H) => (∃ b1 : Bool, ((v1 = (VB b1)) ∧ (cond b1
 (∃ n43 : Int, (((ld h_1 none (addOff (addOff ⟨h1.next, 0, none⟩ 3) 0)) = (some (VI n43))) ∧ (cond (n43 == (7 : Int))
 (∃ n44 : Int, (∃ n45 : Int, (∃ p8 : (Option Addr), (∃ n46 : Nat, (∃ c5 : Nat, (∃ n47 : Int, (∃ n48 : Int, (∃ n49 : Int, (∃ n50 : Int, (∃ n51 : Int, (∃ n52 : Int, (∃ n53 : Int, (((ld h_1 (some 10) ⟨h1.next, 0, none⟩) = (some (VA [(VI n44), (VI n45), (VS p8 n46 c5), (VI n47), (VI n48), (VI n49), (VI n50), (VI n51), (VI n52), (VI n53)]))) ∧ (CallP m E (FN 53) [(VP b), (VA [(VI n44), (VI n45), (VS p8 n46 c5), (VI n47), (VI n48), (VI n49), (VI n50), (VI n51), (VI n52), (VI n53)])] h_1 (fun (v2 : Value) => (fun (h_2 : H) => (∃ b2 : Bool, ((v2 = (VB b2)) ∧ (cond b2
 (N (VT [(VP none), (VI (8 : Int))]) h_2)
 (N (VT [(VP p3), (VI (0 : Int))]) h_2))))))))))))))))))))
 (N (VT [(VP p3), (VI (0 : Int))]) h_1))))
 (N (VT [(VP none), (VI (8 : Int))]) h_1)))))))))))))))))))))))))
 (∃ n32 : Int, (((ld h15 none (addOff (addOff ⟨h1.next, 0, none⟩ 3) 0)) = (some (VI n32))) ∧ (cond (n32 == (7 : Int))
 (∃ n33 : Int, (∃ n34 : Int, (∃ p7 : (Option Addr), (∃ n35 : Nat, (∃ c4 : Nat, (∃ n36 : Int, (∃ n37 : Int, (∃ n38 : Int, (∃ n39 : Int, (∃ n40 : Int, (∃ n41 : Int, (∃ n42 : Int, (((ld h15 (some 10) ⟨h1.next, 0, none⟩) = (some (VA [(VI n33), (VI n34), (VS p7 n35 c4), (VI n36), (VI n37), (VI n38), (VI n39), (VI n40), (VI n41), (VI n42)]))) ∧ (CallP m E (FN 53) [(VP b), (VA [(VI n33), (VI n34), (VS p7 n35 c4), (VI n36), (VI n37), (VI n38), (VI n39), (VI n40), (VI n41), (VI n42)])] h15 (fun (v1 : Value) => (fun (h_1 : H) => (∃ b1 : Bool, ((v1 = (VB b1)) ∧ (cond b1
 (N (VT [(VP none), (VI (8 : Int))]) h_1)
 (N (VT [(VP p3), (VI (0 : Int))]) h_1))))))))))))))))))))
 (N (VT [(VP p3), (VI (0 : Int))]) h15))))))))))))))))
 (∃ n28 : Int, (((ld h15 none (addOff (addOff ⟨h1.next, 0, none⟩ 3) 0)) = (some (VI n28))) ∧ (cond (n28 == (8 : Int))
 (∃ n29 : Int, (((ld h15 none (addOff (addOff ⟨h1.next, 0, none⟩ 3) 0)) = (some (VI n29))) ∧ (cond (n29 == (8 : Int))
 (optP p3 (fun (a7 : Addr) => (∃ n30 : Int, (((ld h15 none (addOff a7 2)) = (some (VI n30))) ∧ (cond (ltI (0 : Int) n30)
 (N (VT [(VP none), (VI (7 : Int))]) h15)
 (∃ n31 : Int, (((ld h15 none (addOff (addOff ⟨h1.next, 0, none⟩ 3) 0)) = (some (VI n31))) ∧ (cond (n31 == (7 : Int))
 (∃ n32 : Int, (((ld h15 none (addOff (addOff ⟨h1.next, 0, none⟩ 3) 0)) = (some (VI n32))) ∧ (cond (n32 == (7 : Int))
 (optP p3 (fun (a8 : Addr) => (∃ n33 : Int, (((ld h15 none (addOff a8 2)) = (some (VI n33))) ∧ (cond (ltI (0 : Int) n33)
 (N (VT [(VP none), (VI (8 : Int))]) h15)
 (∃ n34 : Int, (∃ n35 : Int, (∃ p7 : (Option Addr), (∃ n36 : Nat, (∃ c4 : Nat, (∃ n37 : Int, (∃ n38 : Int, (∃ n39 : Int, (∃ n40 : Int, (∃ n41 : Int, (∃ n42 : Int, (∃ n43 : Int, (((ld h15 (some 10) ⟨h1.next, 0, none⟩) = (some (VA [(VI n34), (VI n35), (VS p7 n36 c4), (VI n37), (VI n38), (VI n39), (VI n40), (VI n41), (VI n42), (VI n43)]))) ∧ (CallP m E (FN 52) [(VP b), (VP p3), (VA [(VI n34), (VI n35), (VS p7 n36 c4), (VI n37), (VI n38), (VI n39), (VI n40), (VI n41), (VI n42), (VI n43)])] h15 (fun (v1 : Value) => (fun (h_1 : H) => (∃ b1 : Bool, ((v1 = (VB b1)) ∧ (cond b1
 (∃ n44 : Int, (((ld h_1 none (addOff (addOff ⟨h1.next, 0, none⟩ 3) 0)) = (some (VI n44))) ∧ (cond (n44 == (7 : Int))
 (∃ n45 : Int, (∃ n46 : Int, (∃ p8 : (Option Addr), (∃ n47 : Nat, (∃ c5 : Nat, (∃ n48 : Int, (∃ n49 : Int, (∃ n50 : Int, (∃ n51 : Int, (∃ n52 : Int, (∃ n53 : Int, (∃ n54 : Int, (((ld h_1 (some 10) ⟨h1.next, 0, none⟩) = (some (VA [(VI n45), (VI n46), (VS p8 n47 c5), (VI n48), (VI n49), (VI n50), (VI n51), (VI n52), (VI n53), (VI n54)]))) ∧ (CallP m E (FN 53) [(VP b), (VA [(VI n45), (VI n46), (VS p8 n47 c5), (VI n48), (VI n49), (VI n50), (VI n51), (VI n52), (VI n53), (VI n54)])] h_1 (fun (v2 : Value) => (fun (h_2 : H) => (∃ b2 : Bool, ((v2 = (VB b2)) ∧ (cond b2
 (N (VT [(VP none), (VI (8 : Int))]) h_2)
 (N (VT [(VP p3), (VI (0 : Int))]) h_2))))))))))))))))))))
 (N (VT [(VP p3), (VI (0 : Int))]) h_1))))
 (N (VT [(VP none), (VI (8 : Int))]) h_1)))))))))))))))))))))))))
 (∃ n33 : Int, (((ld h15 none (addOff (addOff ⟨h1.next, 0, none⟩ 3) 0)) = (some (VI n33))) ∧ (cond (n33 == (7 : Int))
 (∃ n34 : Int, (∃ n35 : Int, (∃ p7 : (Option Addr), (∃ n36 : Nat, (∃ c4 : Nat, (∃ n37 : Int, (∃ n38 : Int, (∃ n39 : Int, (∃ n40 : Int, (∃ n41 : Int, (∃ n42 : Int, (∃ n43 : Int, (((ld h15 (some 10) ⟨h1.next, 0, none⟩) = (some (VA [(VI n34), (VI n35), (VS p7 n36 c4), (VI n37), (VI n38), (VI n39), (VI n40), (VI n41), (VI n42), (VI n43)]))) ∧ (CallP m E (FN 53) [(VP b), (VA [(VI n34), (VI n35), (VS p7 n36 c4), (VI n37), (VI n38), (VI n39), (VI n40), (VI n41), (VI n42), (VI n43)])] h15 (fun (v1 : Value) => (fun (h_1 : H) => (∃ b1 : Bool, ((v1 = (VB b1)) ∧ (cond b1
 (N (VT [(VP none), (VI (8 : Int))]) h_1)
 (N (VT [(VP p3), (VI (0 : Int))]) h_1))))))))))))))))))))
 (N (VT [(VP p3), (VI (0 : Int))]) h15)))))))
 (∃ n32 : Int, (((ld h15 none (addOff (addOff ⟨h1.next, 0, none⟩ 3) 0)) = (some (VI n32))) ∧ (cond (n32 == (7 : Int))
 (optP p3 (fun (a8 : Addr) => (∃ n33 : Int, (((ld h15 none (addOff a8 2)) = (some (VI n33))) ∧ (cond (ltI (0 : Int) n33)
 (N (VT [(VP none), (VI (8 : Int))]) h15)
 (∃ n34 : Int, (∃ n35 : Int, (∃ p7 : (Option Addr), (∃ n36 : Nat, (∃ c4 : Nat, (∃ n37 : Int, (∃ n38 : Int, (∃ n39 : Int, (∃ n40 : Int, (∃ n41 : Int, (∃ n42 : Int, (∃ n43 : Int, (((ld h15 (some 10) ⟨h1.next, 0, none⟩) = (some (VA [(VI n34), (VI n35), (VS p7 n36 c4), (VI n37), (VI n38), (VI n39), (VI n40), (VI n41), (VI n42), (VI n43)]))) ∧ (CallP m E (FN 52) [(VP b), (VP p3), (VA [(VI n34), (VI n35), (VS p7 n36 c4), (VI n37), (VI n38), (VI n39), (VI n40), (VI n41), (VI n42), (VI n43)])] h15 (fun (v1 : Value) => (fun (h_1 : H) => (∃ b1 : Bool, ((v1 = (VB b1)) ∧ (cond b1
 (∃ n44 : Int, (((ld h_1 none (addOff (addOff ⟨h1.next, 0, none⟩ 3) 0)) = (some (VI n44))) ∧ (cond (n44 == (7 : Int))
 (∃ n45 : Int, (∃ n46 : Int, (∃ p8 : (Option Addr), (∃ n47 : Nat, (∃ c5 : Nat, (∃ n48 : Int, (∃ n49 : Int, (∃ n50 : Int, (∃ n51 : Int, (∃ n52 : Int, (∃ n53 : Int, (∃ n54 : Int, (((ld h_1 (some 10) ⟨h1.next, 0, none⟩) = (some (VA [(VI n45), (VI n46), (VS p8 n47 c5), (VI n48), (VI n49), (VI n50), (VI n51), (VI n52), (VI n53), (VI n54)]))) ∧ (CallP m E (FN 53) [(VP b), (VA [(VI n45), (VI n46), (VS p8 n47 c5), (VI n48), (VI n49), (VI n50), (VI n51), (VI n52), (VI n53), (VI n54)])] h_1 (fun (v2 : Value) => (fun (h_2 : H) => (∃ b2 : Bool, ((v2 = (VB b2)) ∧ (cond b2
 (N (VT [(VP none), (VI (8 : Int))]) h_2)
 (N (VT [(VP p3), (VI (0 : Int))]) h_2))))))))))))))))))))
 (N (VT [(VP p3), (VI (0 : Int))]) h_1))))
 (N (VT [(VP none), (VI (8 : Int))]) h_1)))))))))))))))))))))))))
 (∃ n33 : Int, (((ld h15 none (addOff (addOff ⟨h1.next, 0, none⟩ 3) 0)) = (some (VI n33))) ∧ (cond (n33 == (7 : Int))
 (∃ n34 : Int, (∃ n35 : Int, (∃ p7 : (Option Addr), (∃ n36 : Nat, (∃ c4 : Nat, (∃ n37 : Int, (∃ n38 : Int, (∃ n39 : Int, (∃ n40 : Int, (∃ n41 : Int, (∃ n42 : Int, (∃ n43 : Int, (((ld h15 (some 10) ⟨h1.next, 0, none⟩) = (some (VA [(VI n34), (VI n35), (VS p7 n36 c4), (VI n37), (VI n38), (VI n39), (VI n40), (VI n41), (VI n42), (VI n43)]))) ∧ (CallP m E (FN 53) [(VP b), (VA [(VI n34), (VI n35), (VS p7 n36 c4), (VI n37), (VI n38), (VI n39), (VI n40), (VI n41), (VI n42), (VI n43)])] h15 (fun (v1 : Value) => (fun (h_1 : H) => (∃ b1 : Bool, ((v1 = (VB b1)) ∧ (cond b1
 (N (VT [(VP none), (VI (8 : Int))]) h_1)
 (N (VT [(VP p3), (VI (0 : Int))]) h_1))))))))))))))))))))
 (N (VT [(VP p3), (VI (0 : Int))]) h15)))))))))))))))
 (∃ n30 : Int, (((ld h15 none (addOff (addOff ⟨h1.next, 0, none⟩ 3) 0)) = (some (VI n30))) ∧ (cond (n30 == (7 : Int))
 (∃ n31 : Int, (((ld h15 none (addOff (addOff ⟨h1.next, 0, none⟩ 3) 0)) = (some (VI n31))) ∧ (cond (n31 == (7 : Int))
 (optP p3 (fun (a7 : Addr) => (∃ n32 : Int, (((ld h15 none (addOff a7 2)) = (some (VI n32))) ∧ (cond (ltI (0 : Int) n32)
 (N (VT [(VP none), (VI (8 : Int))]) h15)
 (∃ n33 : Int, (∃ n34 : Int, (∃ p7 : (Option Addr), (∃ n35 : Nat, (∃ c4 : Nat, (∃ n36 : Int, (∃ n37 : Int, (∃ n38 : Int, (∃ n39 : Int, (∃ n40 : Int, (∃ n41 : Int, (∃ n42 : Int, (((ld h15 (some 10) ⟨h1.next, 0, none⟩) = (some (VA [(VI n33), (VI n34), (VS p7 n35 c4), (VI n36), (VI n37), (VI n38), (VI n39), (VI n40), (VI n41), (VI n42)]))) ∧ (CallP m E (FN 52) [(VP b), (VP p3), (VA [(VI n33), (VI n34), (VS p7 n35 c4), (VI n36), (VI n37), (VI n38), (VI n39), (VI n40), (VI n41), (VI n42)])] h15 (fun (v1 : Value) => (fun (h_1 : H) => (∃ b1 : Bool, ((v1 = (VB b1)) ∧ (cond b1
 (∃ n43 : Int, (((ld h_1 none (addOff (addOff ⟨h1.next, 0, none⟩ 3) 0)) = (some (VI n43))) ∧ (cond (n43 == (7 : Int))
 (∃ n44 : Int, (∃ n45 : Int, (∃ p8 : (Option Addr), (∃ n46 : Nat, (∃ c5 : Nat, (∃ n47 : Int, (∃ n48 : Int, (∃ n49 : Int, (∃ n50 : Int, (∃ n51 : Int, (∃ n52 : Int, (∃ n53 : Int, (((ld h_1 (some 10) ⟨h1.next, 0, none⟩) = (some (VA [(VI n44), (VI n45), (VS p8 n46 c5), (VI n47), (VI n48), (VI n49), (VI n50), (VI n51), (VI n52), (VI n53)]))) ∧ (CallP m E (FN 53) [(VP b), (VA [(VI n44), (VI n45), (VS p8 n46 c5), (VI n47), (VI n48), (VI n49), (VI n50), (VI n51), (VI n52), (VI n53)])] h_1 (fun (v2 : Value) => (fun (h_2 : H) => (∃ b2 : Bool, ((v2 = (VB b2)) ∧ (cond b2
 (N (VT [(VP none), (VI (8 : Int))]) h_2)
 (N (VT [(VP p3), (VI (0 : Int))]) h_2))))))))))))))))))))
 (N (VT [(VP p3), (VI (0 : Int))]) h_1))))
 (N (VT [(VP none), (VI (8 : Int))]) h_1)))))))))))))))))))))))))
 (∃ n32 : Int, (((ld h15 none (addOff (addOff ⟨h1.next, 0, none⟩ 3) 0)) = (some (VI n32))) ∧ (cond (n32 == (7 : Int))
 (∃ n33 : Int, (∃ n34 : Int, (∃ p7 : (Option Addr), (∃ n35 : Nat, (∃ c4 : Nat, (∃ n36 : Int, (∃ n37 : Int, (∃ n38 : Int, (∃ n39 : Int, (∃ n40 : Int, (∃ n41 : Int, (∃ n42 : Int, (((ld h15 (some 10) ⟨h1.next, 0, none⟩) = (some (VA [(VI n33), (VI n34), (VS p7 n35 c4), (VI n36), (VI n37), (VI n38), (VI n39), (VI n40), (VI n41), (VI n42)]))) ∧ (CallP m E (FN 53) [(VP b), (VA [(VI n33), (VI n34), (VS p7 n35 c4), (VI n36), (VI n37), (VI n38), (VI n39), (VI n40), (VI n41), (VI n42)])] h15 (fun (v1 : Value) => (fun (h_1 : H) => (∃ b1 : Bool, ((v1 = (VB b1)) ∧ (cond b1
 (N (VT [(VP none), (VI (8 : Int))]) h_1)
 (N (VT [(VP p3), (VI (0 : Int))]) h_1))))))))))))))))))))
 (N (VT [(VP p3), (VI (0 : Int))]) h15)))))))
 (∃ n31 : Int, (((ld h15 none (addOff (addOff ⟨h1.next, 0, none⟩ 3) 0)) = (some (VI n31))) ∧ (cond (n31 == (7 : Int))
 (optP p3 (fun (a7 : Addr) => (∃ n32 : Int, (((ld h15 none (addOff a7 2)) = (some (VI n32))) ∧ (cond (ltI (0 : Int) n32)
 (N (VT [(VP none), (VI (8 : Int))]) h15)
 (∃ n33 : Int, (∃ n34 : Int, (∃ p7 : (Option Addr), (∃ n35 : Nat, (∃ c4 : Nat, (∃ n36 : Int, (∃ n37 : Int, (∃ n38 : Int, (∃ n39 : Int, (∃ n40 : Int, (∃ n41 : Int, (∃ n42 : Int, (((ld h15 (some 10) ⟨h1.next, 0, none⟩) = (some (VA [(VI n33), (VI n34), (VS p7 n35 c4), (VI n36), (VI n37), (VI n38), (VI n39), (VI n40), (VI n41), (VI n42)]))) ∧ (CallP m E (FN 52) [(VP b), (VP p3), (VA [(VI n33), (VI n34), (VS p7 n35 c4), (VI n36), (VI n37), (VI n38), (VI n39), (VI n40), (VI n41), (VI n42)])] h15 (fun (v1 : Value) => (fun (h_1 : H) => (∃ b1 : Bool, ((v1 = (VB b1)) ∧ (cond b1
 (∃ n43 : Int, (((ld h_1 none (addOff (addOff ⟨h1.next, 0, none⟩ 3) 0)) = (some (VI n43))) ∧ (cond (n43 == (7 : Int))
 (∃ n44 : Int, (∃ n45 : Int, (∃ p8 : (Option Addr), (∃ n46 : Nat, (∃ c5 : Nat, (∃ n47 : Int, (∃ n48 : Int, (∃ n49 : Int, (∃ n50 : Int, (∃ n51 : Int, (∃ n52 : Int, (∃ n53 : Int, (((ld h_1 (some 10) ⟨h1.next, 0, none⟩) = (some (VA [(VI n44), (VI n45), (VS p8 n46 c5), (VI n47), (VI n48), (VI n49), (VI n50), (VI n51), (VI n52), (VI n53)]))) ∧ (CallP m E (FN 53) [(VP b), (VA [(VI n44), (VI n45), (VS p8 n46 c5), (VI n47), (VI n48), (VI n49), (VI n50), (VI n51), (VI n52), (VI n53)])] h_1 (fun (v2 : Value) => (fun (h_2 : H) => (∃ b2 : Bool, ((v2 = (VB b2)) ∧ (cond b2
 (N (VT [(VP none), (VI (8 : Int))]) h_2)
 (N (VT [(VP p3), (VI (0 : Int))]) h_2))))))))))))))))))))
 (N (VT [(VP p3), (VI (0 : Int))]) h_1))))
 (N (VT [(VP none), (VI (8 : Int))]) h_1)))))))))))))))))))))))))
 (∃ n32 : Int, (((ld h15 none (addOff (addOff ⟨h1.next, 0, none⟩ 3) 0)) = (some (VI n32))) ∧ (cond (n32 == (7 : Int))
 (∃ n33 : Int, (∃ n34 : Int, (∃ p7 : (Option Addr), (∃ n35 : Nat, (∃ c4 : Nat, (∃ n36 : Int, (∃ n37 : Int, (∃ n38 : Int, (∃ n39 : Int, (∃ n40 : Int, (∃ n41 : Int, (∃ n42 : Int, (((ld h15 (some 10) ⟨h1.next, 0, none⟩) = (some (VA [(VI n33), (VI n34), (VS p7 n35 c4), (VI n36), (VI n37), (VI n38), (VI n39), (VI n40), (VI n41), (VI n42)]))) ∧ (CallP m E (FN 53) [(VP b), (VA [(VI n33), (VI n34), (VS p7 n35 c4), (VI n36), (VI n37), (VI n38), (VI n39), (VI n40), (VI n41), (VI n42)])] h15 (fun (v1 : Value) => (fun (h_1 : H) => (∃ b1 : Bool, ((v1 = (VB b1)) ∧ (cond b1
 (N (VT [(VP none), (VI (8 : Int))]) h_1)
 (N (VT [(VP p3), (VI (0 : Int))]) h_1))))))))))))))))))))
 (N (VT [(VP p3), (VI (0 : Int))]) h15)))))))))))))
 (∃ n29 : Int, (((ld h15 none (addOff (addOff ⟨h1.next, 0, none⟩ 3) 0)) = (some (VI n29))) ∧ (cond (n29 == (8 : Int))
 (optP p3 (fun (a7 : Addr) => (∃ n30 : Int, (((ld h15 none (addOff a7 2)) = (some (VI n30))) ∧ (cond (ltI (0 : Int) n30)
 (N (VT [(VP none), (VI (7 : Int))]) h15)
 (∃ n31 : Int, (((ld h15 none (addOff (addOff ⟨h1.next, 0, none⟩ 3) 0)) = (some (VI n31))) ∧ (cond (n31 == (7 : Int))
 (∃ n32 : Int, (((ld h15 none (addOff (addOff ⟨h1.next, 0, none⟩ 3) 0)) = (some (VI n32))) ∧ (cond (n32 == (7 : Int))
 (optP p3 (fun (a8 : Addr) => (∃ n33 : Int, (((ld h15 none (addOff a8 2)) = (some (VI n33))) ∧ (cond (ltI (0 : Int) n33)
 (N (VT [(VP none), (VI (8 : Int))]) h15)
 (∃ n34 : Int, (∃ n35 : Int, (∃ p7 : (Option Addr), (∃ n36 : Nat, (∃ c4 : Nat, (∃ n37 : Int, (∃ n38 : Int, (∃ n39 : Int, (∃ n40 : Int, (∃ n41 : Int, (∃ n42 : Int, (∃ n43 : Int, (((ld h15 (some 10) ⟨h1.next, 0, none⟩) = (some (VA [(VI n34), (VI n35), (VS p7 n36 c4), (VI n37), (VI n38), (VI n39), (VI n40), (VI n41), (VI n42), (VI n43)]))) ∧ (CallP m E (FN 52) [(VP b), (VP p3), (VA [(VI n34), (VI n35), (VS p7 n36 c4), (VI n37), (VI n38), (VI n39), (VI n40), (VI n41), (VI n42), (VI n43)])] h15 (fun (v1 : Value) => (fun (h_1 : H) => (∃ b1 : Bool, ((v1 = (VB b1)) ∧ (cond b1
 (∃ n44 : Int, (((ld h_1 none (addOff (addOff ⟨h1.next, 0, none⟩ 3) 0)) = (some (VI n44))) ∧ (cond (n44 == (7 : Int))
 (∃ n45 : Int, (∃ n46 : Int, (∃ p8 : (Option Addr), (∃ n47 : Nat, (∃ c5 : Nat, (∃ n48 : Int, (∃ n49 : Int, (∃ n50 : Int, (∃ n51 : Int, (∃ n52 : Int, (∃ n53 : Int, (∃ n54 : Int, (((ld h_1 (some 10) ⟨h1.next, 0, none⟩) = (some (VA [(VI n45), (VI n46), (VS p8 n47 c5), (VI n48), (VI n49), (VI n50), (VI n51), (VI n52), (VI n53), (VI n54)]))) ∧ (CallP m E (FN 53) [(VP b), (VA [(VI n45), (VI n46), (VS p8 n47 c5), (VI n48), (VI n49), (VI n50), (VI n51), (VI n52), (VI n53), (VI n54)])] h_1 (fun (v2 : Value) => (fun (h_2 : H) => (∃ b2 : Bool, ((v2 = (VB b2)) ∧ (cond b2
 (N (VT [(VP none), (VI (8 : Int))]) h_2)
 (N (VT [(VP p3), (VI (0 : Int))]) h_2))))))))))))))))))))
 (N (VT [(VP p3), (VI (0 : Int))]) h_1))))
 (N (VT [(VP none), (VI (8 : Int))]) h_1)))))))))))))))))))))))))
 (∃ n33 : Int, (((ld h15 none (addOff (addOff ⟨h1.next, 0, none⟩ 3) 0)) = (some (VI n33))) ∧ (cond (n33 == (7 : Int))
 (∃ n34 : Int, (∃ n35 : Int, (∃ p7 : (Option Addr), (∃ n36 : Nat, (∃ c4 : Nat, (∃ n37 : Int, (∃ n38 : Int, (∃ n39 : Int, (∃ n40 : Int, (∃ n41 : Int, (∃ n42 : Int, (∃ n43 : Int, (((ld h15 (some 10) ⟨h1.next, 0, none⟩) = (some (VA [(VI n34), (VI n35), (VS p7 n36 c4), (VI n37), (VI n38), (VI n39), (VI n40), (VI n41), (VI n42), (VI n43)]))) ∧ (CallP m E (FN 53) [(VP b), (VA [(VI n34), (VI n35), (VS p7 n36 c4), (VI n37), (VI n38), (VI n39), (VI n40), (VI n41), (VI n42), (VI n43)])] h15 (fun (v1 : Value) => (fun (h_1 : H) => (∃ b1 : Bool, ((v1 = (VB b1)) ∧ (cond b1
 (N (VT [(VP none), (VI (8 : Int))]) h_1)
 (N (VT [(VP p3), (VI (0 : Int))]) h_1))))))))))))))))))))
 (N (VT [(VP p3), (VI (0 : Int))]) h15)))))))
 (∃ n32 : Int, (((ld h15 none (addOff (addOff ⟨h1.next, 0, none⟩ 3) 0)) = (some (VI n32))) ∧ (cond (n32 == (7 : Int))
 (optP p3 (fun (a8 : Addr) => (∃ n33 : Int, (((ld h15 none (addOff a8 2)) = (some (VI n33))) ∧ (cond (ltI (0 : Int) n33)
 (N (VT [(VP none), (VI (8 : Int))]) h15)
 (∃ n34 : Int, (∃ n35 : Int, (∃ p7 : (Option Addr), (∃ n36 : Nat, (∃ c4 : Nat, (∃ n37 : Int, (∃ n38 : Int, (∃ n39 : Int, (∃ n40 : Int, (∃ n41 : Int, (∃ n42 : Int, (∃ n43 : Int, (((ld h15 (some 10) ⟨h1.next, 0, none⟩) = (some (VA [(VI n34), (VI n35), (VS p7 n36 c4), (VI n37), (VI n38), (VI n39), (VI n40), (VI n41), (VI n42), (VI n43)]))) ∧ (CallP m E (FN 52) [(VP b), (VP p3), (VA [(VI n34), (VI n35), (VS p7 n36 c4), (VI n37), (VI n38), (VI n39), (VI n40), (VI n41), (VI n42), (VI n43)])] h15 (fun (v1 : Value) => (fun (h_1 : H) => (∃ b1 : Bool, ((v1 = (VB b1)) ∧ (cond b1
 (∃ n44 : Int, (((ld h_1 none (addOff (addOff ⟨h1.next, 0, none⟩ 3) 0)) = (some (VI n44))) ∧ (cond (n44 == (7 : Int))
 (∃ n45 : Int, (∃ n46 : Int, (∃ p8 : (Option Addr), (∃ n47 : Nat, (∃ c5 : Nat, (∃ n48 : Int, (∃ n49 : Int, (∃ n50 : Int, (∃ n51 : Int, (∃ n52 : Int, (∃ n53 : Int, (∃ n54 : Int, (((ld h_1 (some 10) ⟨h1.next, 0, none⟩) = (some (VA [(VI n45), (VI n46), (VS p8 n47 c5), (VI n48), (VI n49), (VI n50), (VI n51), (VI n52), (VI n53), (VI n54)]))) ∧ (CallP m E (FN 53) [(VP b), (VA [(VI n45), (VI n46), (VS p8 n47 c5), (VI n48), (VI n49), (VI n50), (VI n51), (VI n52), (VI n53), (VI n54)])] h_1 (fun (v2 : Value) => (fun (h_2 : H) => (∃ b2 : Bool, ((v2 = (VB b2)) ∧ (cond b2
 (N (VT [(VP none), (VI (8 : Int))]) h_2)
 (N (VT [(VP p3), (VI (0 : Int))]) h_2))))))))))))))))))))
 (N (VT [(VP p3), (VI (0 : Int))]) h_1))))
 (N (VT [(VP none), (VI (8 : Int))]) h_1)))))))))))))))))))))))))
 (∃ n33 : Int, (((ld h15 none (addOff (addOff ⟨h1.next, 0, none⟩ 3) 0)) = (some (VI n33))) ∧ (cond (n33 == (7 : Int))
 (∃ n34 : Int, (∃ n35 : Int, (∃ p7 : (Option Addr), (∃ n36 : Nat, (∃ c4 : Nat, (∃ n37 : Int, (∃ n38 : Int, (∃ n39 : Int, (∃ n40 : Int, (∃ n41 : Int, (∃ n42 : Int, (∃ n43 : Int, (((ld h15 (some 10) ⟨h1.next, 0, none⟩) = (some (VA [(VI n34), (VI n35), (VS p7 n36 c4), (VI n37), (VI n38), (VI n39), (VI n40), (VI n41), (VI n42), (VI n43)]))) ∧ (CallP m E (FN 53) [(VP b), (VA [(VI n34), (VI n35), (VS p7 n36 c4), (VI n37), (VI n38), (VI n39), (VI n40), (VI n41), (VI n42), (VI n43)])] h15 (fun (v1 : Value) => (fun (h_1 : H) => (∃ b1 : Bool, ((v1 = (VB b1)) ∧ (cond b1
 (N (VT [(VP none), (VI (8 : Int))]) h_1)
 (N (VT [(VP p3), (VI (0 : Int))]) h_1))))))))))))))))))))
 (N (VT [(VP p3), (VI (0 : Int))]) h15)))))))))))))))
 (∃ n30 : Int, (((ld h15 none (addOff (addOff ⟨h1.next, 0, none⟩ 3) 0)) = (some (VI n30))) ∧ (cond (n30 == (7 : Int))
 (∃ n31 : Int, (((ld h15 none (addOff (addOff ⟨h1.next, 0, none⟩ 3) 0)) = (some (VI n31))) ∧ (cond (n31 == (7 : Int))
 (optP p3 (fun (a7 : Addr) => (∃ n32 : Int, (((ld h15 none (addOff a7 2)) = (some (VI n32))) ∧ (cond (ltI (0 : Int) n32)
 (N (VT [(VP none), (VI (8 : Int))]) h15)
 (∃ n33 : Int, (∃ n34 : Int, (∃ p7 : (Option Addr), (∃ n35 : Nat, (∃ c4 : Nat, (∃ n36 : Int, (∃ n37 : Int, (∃ n38 : Int, (∃ n39 : Int, (∃ n40 : Int, (∃ n41 : Int, (∃ n42 : Int, (((ld h15 (some 10) ⟨h1.next, 0, none⟩) = (some (VA [(VI n33), (VI n34), (VS p7 n35 c4), (VI n36), (VI n37), (VI n38), (VI n39), (VI n40), (VI n41), (VI n42)]))) ∧ (CallP m E (FN 52) [(VP b), (VP p3), (VA [(VI n33), (VI n34), (VS p7 n35 c4), (VI n36), (VI n37), (VI n38), (VI n39), (VI n40), (VI n41), (VI n42)])] h15 (fun (v1 : Value) => (fun (h_1 : H) => (∃ b1 : Bool, ((v1 = (VB b1)) ∧ (cond b1
 (∃ n43 : Int, (((ld h_1 none (addOff (addOff ⟨h1.next, 0, none⟩ 3) 0)) = (some (VI n43))) ∧ (cond (n43 == (7 : Int))
 (∃ n44 : Int, (∃ n45 : Int, (∃ p8 : (Option Addr), (∃ n46 : Nat, (∃ c5 : Nat, (∃ n47 : Int, (∃ n48 : Int, (∃ n49 : Int, (∃ n50 : Int, (∃ n51 : Int, (∃ n52 : Int, (∃ n53 : Int, (((ld h_1 (some 10) ⟨h1.next, 0, none⟩) = (some (VA [(VI n44), (VI n45), (VS p8 n46 c5), (VI n47), (VI n48), (VI n49), (VI n50), (VI n51), (VI n52), (VI n53)]))) ∧ (CallP m E (FN 53) [(VP b), (VA [(VI n44), (VI n45), (VS p8 n46 c5), (VI n47), (VI n48), (VI n49), (VI n50), (VI n51), (VI n52), (VI n53)])] h_1 (fun (v2 : Value) => (fun (h_2 : H) => (∃ b2 : Bool, ((v2 = (VB b2)) ∧ (cond b2
 (N (VT [(VP none), (VI (8 : Int))]) h_2)
 (N (VT [(VP p3), (VI (0 : Int))]) h_2))))))))))))))))))))
 (N (VT [(VP p3), (VI (0 : Int))]) h_1))))
 (N (VT [(VP none), (VI (8 : Int))]) h_1)))))))))))))))))))))))))
 (∃ n32 : Int, (((ld h15 none (addOff (addOff ⟨h1.next, 0, none⟩ 3) 0)) = (some (VI n32))) ∧ (cond (n32 == (7 : Int))
 (∃ n33 : Int, (∃ n34 : Int, (∃ p7 : (Option Addr), (∃ n35 : Nat, (∃ c4 : Nat, (∃ n36 : Int, (∃ n37 : Int, (∃ n38 : Int, (∃ n39 : Int, (∃ n40 : Int, (∃ n41 : Int, (∃ n42 : Int, (((ld h15 (some 10) ⟨h1.next, 0, none⟩) = (some (VA [(VI n33), (VI n34), (VS p7 n35 c4), (VI n36), (VI n37), (VI n38), (VI n39), (VI n40), (VI n41), (VI n42)]))) ∧ (CallP m E (FN 53) [(VP b), (VA [(VI n33), (VI n34), (VS p7 n35 c4), (VI n36), (VI n37), (VI n38), (VI n39), (VI n40), (VI n41), (VI n42)])] h15 (fun (v1 : Value) => (fun (h_1 : H) => (∃ b1 : Bool, ((v1 = (VB b1)) ∧ (cond b1
 (N (VT [(VP none), (VI (8 : Int))]) h_1)
 (N (VT [(VP p3), (VI (0 : Int))]) h_1))))))))))))))))))))
 (N (VT [(VP p3), (VI (0 : Int))]) h15)))))))
 (∃ n31 : Int, (((ld h15 none (addOff (addOff ⟨h1.next, 0, none⟩ 3) 0)) = (some (VI n31))) ∧ (cond (n31 == (7 : Int))
 (optP p3 (fun (a7 : Addr) => (∃ n32 : Int, (((ld h15 none (addOff a7 2)) = (some (VI n32))) ∧ (cond (ltI (0 : Int) n32)
 (N (VT [(VP none), (VI (8 : Int))]) h15)
 (∃ n33 : Int, (∃ n34 : Int, (∃ p7 : (Option Addr), (∃ n35 : Nat, (∃ c4 : Nat, (∃ n36 : Int, (∃ n37 : Int, (∃ n38 : Int, (∃ n39 : Int, (∃ n40 : Int, (∃ n41 : Int, (∃ n42 : Int, (((ld h15 (some 10) ⟨h1.next, 0, none⟩) = (some (VA [(VI n33), (VI n34), (VS p7 n35 c4), (VI n36), (VI n37), (VI n38), (VI n39), (VI n40), (VI n41), (VI n42)]))) ∧ (CallP m E (FN 52) [(VP b), (VP p3), (VA [(VI n33), (VI n34), (VS p7 n35 c4), (VI n36), (VI n37), (VI n38), (VI n39), (VI n40), (VI n41), (VI n42)])] h15 (fun (v1 : Value) => (fun (h_1 : H) => (∃ b1 : Bool, ((v1 = (VB b1)) ∧ (cond b1
 (∃ n43 : Int, (((ld h_1 none (addOff (addOff ⟨h1.next, 0, none⟩ 3) 0)) = (some (VI n43))) ∧ (cond (n43 == (7 : Int))
 (∃ n44 : Int, (∃ n45 : Int, (∃ p8 : (Option Addr), (∃ n46 : Nat, (∃ c5 : Nat, (∃ n47 : Int, (∃ n48 : Int, (∃ n49 : Int, (∃ n50 : Int, (∃ n51 : Int, (∃ n52 : Int, (∃ n53 : Int, (((ld h_1 (some 10) ⟨h1.next, 0, none⟩) = (some (VA [(VI n44), (VI n45), (VS p8 n46 c5), (VI n47), (VI n48), (VI n49), (VI n50), (VI n51), (VI n52), (VI n53)]))) ∧ (CallP m E (FN 53) [(VP b), (VA [(VI n44), (VI n45), (VS p8 n46 c5), (VI n47), (VI n48), (VI n49), (VI n50), (VI n51), (VI n52), (VI n53)])] h_1 (fun (v2 : Value) => (fun (h_2 : H) => (∃ b2 : Bool, ((v2 = (VB b2)) ∧ (cond b2
 (N (VT [(VP none), (VI (8 : Int))]) h_2)
 (N (VT [(VP p3), (VI (0 : Int))]) h_2))))))))))))))))))))
 (N (VT [(VP p3), (VI (0 : Int))]) h_1))))
 (N (VT [(VP none), (VI (8 : Int))]) h_1)))))))))))))))))))))))))
 (∃ n32 : Int, (((ld h15 none (addOff (addOff ⟨h1.next, 0, none⟩ 3) 0)) = (some (VI n32))) ∧ (cond (n32 == (7 : Int))
 (∃ n33 : Int, (∃ n34 : Int, (∃ p7 : (Option Addr), (∃ n35 : Nat, (∃ c4 : Nat, (∃ n36 : Int, (∃ n37 : Int, (∃ n38 : Int, (∃ n39 : Int, (∃ n40 : Int, (∃ n41 : Int, (∃ n42 : Int, (((ld h15 (some 10) ⟨h1.next, 0, none⟩) = (some (VA [(VI n33), (VI n34), (VS p7 n35 c4), (VI n36), (VI n37), (VI n38), (VI n39), (VI n40), (VI n41), (VI n42)]))) ∧ (CallP m E (FN 53) [(VP b), (VA [(VI n33), (VI n34), (VS p7 n35 c4), (VI n36), (VI n37), (VI n38), (VI n39), (VI n40), (VI n41), (VI n42)])] h15 (fun (v1 : Value) => (fun (h_1 : H) => (∃ b1 : Bool, ((v1 = (VB b1)) ∧ (cond b1
 (N (VT [(VP none), (VI (8 : Int))]) h_1)
 (N (VT [(VP p3), (VI (0 : Int))]) h_1))))))))))))))))))))
 (N (VT [(VP p3), (VI (0 : Int))]) h15)))))))))))))))))))))))))
 (optP p3 (fun (a6 : Addr) => (∃ p6 : (Option Nat), (((ld h15 none (addOff a6 1)) = (some (Value.map p6))) ∧ (∃ n26 : Int, (((ld h15 none (addOff ⟨h1.next, 0, none⟩ 0)) = (some (VI n26))) ∧ (∃ n27 : Int, (((readV h15 (AOp.lookup (EK.leaf LK.int) (VI (0 : Int)) Bool.false (Operand.const (Value.map p6)) (Operand.const (VI n26)))) = (some (VI n27))) ∧ (cond (ltI (0 : Int) n27)
 (∃ n28 : Int, (((ld h15 none (addOff (addOff ⟨h1.next, 0, none⟩ 3) 0)) = (some (VI n28))) ∧ (cond (n28 == (8 : Int))
 (N (VT [(VP none), (VI (8 : Int))]) h15)
 (∃ n29 : Int, (((ld h15 none (addOff (addOff ⟨h1.next, 0, none⟩ 3) 0)) = (some (VI n29))) ∧ (cond (n29 == (8 : Int))
 (optP p3 (fun (a7 : Addr) => (∃ n30 : Int, (((ld h15 none (addOff a7 2)) = (some (VI n30))) ∧ (cond (ltI (0 : Int) n30)
 (N (VT [(VP none), (VI (7 : Int))]) h15)
 (∃ n31 : Int, (((ld h15 none (addOff (addOff ⟨h1.next, 0, none⟩ 3) 0)) = (some (VI n31))) ∧ (cond (n31 == (7 : Int))
 (N (VT [(VP none), (VI (7 : Int))]) h15)
 (∃ n32 : Int, (((ld h15 none (addOff (addOff ⟨h1.next, 0, none⟩ 3) 0)) = (some (VI n32))) ∧ (cond (n32 == (7 : Int))
 (∃ n33 : Int, (((ld h15 none (addOff (addOff ⟨h1.next, 0, none⟩ 3) 0)) = (some (VI n33))) ∧ (cond (n33 == (7 : Int))
 (∃ n34 : Int, (∃ n35 : Int, (∃ p7 : (Option Addr), (∃ n36 : Nat, (∃ c4 : Nat, (∃ n37 : Int, (∃ n38 : Int, (∃ n39 : Int, (∃ n40 : Int, (∃ n41 : Int, (∃ n42 : Int, (∃ n43 : Int, (((ld h15 (some 10) ⟨h1.next, 0, none⟩) = (some (VA [(VI n34), (VI n35), (VS p7 n36 c4), (VI n37), (VI n38), (VI n39), (VI n40), (VI n41), (VI n42), (VI n43)]))) ∧ (CallP m E (FN 53) [(VP b), (VA [(VI n34), (VI n35), (VS p7 n36 c4), (VI n37), (VI n38), (VI n39), (VI n40), (VI n41), (VI n42), (VI n43)])] h15 (fun (v1 : Value) => (fun (h_1 : H) => (∃ b1 : Bool, ((v1 = (VB b1)) ∧ (cond b1
 (N (VT [(VP none), (VI (8 : Int))]) h_1)
 (N (VT [(VP p3), (VI (0 : Int))]) h_1))))))))))))))))))))
 (N (VT [(VP p3), (VI (0 : Int))]) h15))))
 (∃ n33 : Int, (((ld h15 none (addOff (addOff ⟨h1.next, 0, none⟩ 3) 0)) = (some (VI n33))) ∧ (cond (n33 == (7 : Int))
 (∃ n34 : Int, (∃ n35 : Int, (∃ p7 : (Option Addr), (∃ n36 : Nat, (∃ c4 : Nat, (∃ n37 : Int, (∃ n38 : Int, (∃ n39 : Int, (∃ n40 : Int, (∃ n41 : Int, (∃ n42 : Int, (∃ n43 : Int, (((ld h15 (some 10) ⟨h1.next, 0, none⟩) = (some (VA [(VI n34), (VI n35), (VS p7 n36 c4), (VI n37), (VI n38), (VI n39), (VI n40), (VI n41), (VI n42), (VI n43)]))) ∧ (CallP m E (FN 53) [(VP b), (VA [(VI n34), (VI n35), (VS p7 n36 c4), (VI n37), (VI n38), (VI n39), (VI n40), (VI n41), (VI n42), (VI n43)])] h15 (fun (v1 : Value) => (fun (h_1 : H) => (∃ b1 : Bool, ((v1 = (VB b1)) ∧ (cond b1
 (N (VT [(VP none), (VI (8 : Int))]) h_1)
 (N (VT [(VP p3), (VI (0 : Int))]) h_1))))))))))))))))))))
 (N (VT [(VP p3), (VI (0 : Int))]) h15)))))))))))))))
 (∃ n30 : Int, (((ld h15 none (addOff (addOff ⟨h1.next, 0, none⟩ 3) 0)) = (some (VI n30))) ∧ (cond (n30 == (7 : Int))
 (N (VT [(VP none), (VI (7 : Int))]) h15)
 (∃ n31 : Int, (((ld h15 none (addOff (addOff ⟨h1.next, 0, none⟩ 3) 0)) = (some (VI n31))) ∧ (cond (n31 == (7 : Int))
 (∃ n32 : Int, (((ld h15 none (addOff (addOff ⟨h1.next, 0, none⟩ 3) 0)) = (some (VI n32))) ∧ (cond (n32 == (7 : Int))
 (∃ n33 : Int, (∃ n34 : Int, (∃ p7 : (Option Addr), (∃ n35 : Nat, (∃ c4 : Nat, (∃ n36 : Int, (∃ n37 : Int, (∃ n38 : Int, (∃ n39 : Int, (∃ n40 : Int, (∃ n41 : Int, (∃ n42 : Int, (((ld h15 (some 10) ⟨h1.next, 0, none⟩) = (some (VA [(VI n33), (VI n34), (VS p7 n35 c4), (VI n36), (VI n37), (VI n38), (VI n39), (VI n40), (VI n41), (VI n42)]))) ∧ (CallP m E (FN 53) [(VP b), (VA [(VI n33), (VI n34), (VS p7 n35 c4), (VI n36), (VI n37), (VI n38), (VI n39), (VI n40), (VI n41), (VI n42)])] h15 (fun (v1 : Value) => (fun (h_1 : H) => (∃ b1 : Bool, ((v1 = (VB b1)) ∧ (cond b1
 (N (VT [(VP none), (VI (8 : Int))]) h_1)
 (N (VT [(VP p3), (VI (0 : Int))]) h_1))))))))))))))))))))
 (N (VT [(VP p3), (VI (0 : Int))]) h15))))
 (∃ n32 : Int, (((ld h15 none (addOff (addOff ⟨h1.next, 0, none⟩ 3) 0)) = (some (VI n32))) ∧ (cond (n32 == (7 : Int))
 (∃ n33 : Int, (∃ n34 : Int, (∃ p7 : (Option Addr), (∃ n35 : Nat, (∃ c4 : Nat, (∃ n36 : Int, (∃ n37 : Int, (∃ n38 : Int, (∃ n39 : Int, (∃ n40 : Int, (∃ n41 : Int, (∃ n42 : Int, (((ld h15 (some 10) ⟨h1.next, 0, none⟩) = (some (VA [(VI n33), (VI n34), (VS p7 n35 c4), (VI n36), (VI n37), (VI n38), (VI n39), (VI n40), (VI n41), (VI n42)]))) ∧ (CallP m E (FN 53) [(VP b), (VA [(VI n33), (VI n34), (VS p7 n35 c4), (VI n36), (VI n37), (VI n38), (VI n39), (VI n40), (VI n41), (VI n42)])] h15 (fun (v1 : Value) => (fun (h_1 : H) => (∃ b1 : Bool, ((v1 = (VB b1)) ∧ (cond b1
 (N (VT [(VP none), (VI (8 : Int))]) h_1)
 (N (VT [(VP p3), (VI (0 : Int))]) h_1))))))))))))))))))))
 (N (VT [(VP p3), (VI (0 : Int))]) h15))))))))))))))))
 (∃ n28 : Int, (((ld h15 none (addOff (addOff ⟨h1.next, 0, none⟩ 3) 0)) = (some (VI n28))) ∧ (cond (n28 == (8 : Int))
 (N (VT [(VP none), (VI (8 : Int))]) h15)
 (∃ n29 : Int, (((ld h15 none (addOff (addOff ⟨h1.next, 0, none⟩ 3) 0)) = (some (VI n29))) ∧ (cond (n29 == (8 : Int))
 (optP p3 (fun (a7 : Addr) => (∃ n30 : Int, (((ld h15 none (addOff a7 2)) = (some (VI n30))) ∧ (cond (ltI (0 : Int) n30)
 (N (VT [(VP none), (VI (7 : Int))]) h15)
 (∃ n31 : Int, (((ld h15 none (addOff (addOff ⟨h1.next, 0, none⟩ 3) 0)) = (some (VI n31))) ∧ (cond (n31 == (7 : Int))
 (∃ n32 : Int, (((ld h15 none (addOff (addOff ⟨h1.next, 0, none⟩ 3) 0)) = (some (VI n32))) ∧ (cond (n32 == (7 : Int))
 (∃ n33 : Int, (((ld h15 none (addOff (addOff ⟨h1.next, 0, none⟩ 3) 0)) = (some (VI n33))) ∧ (cond (n33 == (7 : Int))
 (∃ n34 : Int, (∃ n35 : Int, (∃ p7 : (Option Addr), (∃ n36 : Nat, (∃ c4 : Nat, (∃ n37 : Int, (∃ n38 : Int, (∃ n39 : Int, (∃ n40 : Int, (∃ n41 : Int, (∃ n42 : Int, (∃ n43 : Int, (((ld h15 (some 10) ⟨h1.next, 0, none⟩) = (some (VA [(VI n34), (VI n35), (VS p7 n36 c4), (VI n37), (VI n38), (VI n39), (VI n40), (VI n41), (VI n42), (VI n43)]))) ∧ (CallP m E (FN 53) [(VP b), (VA [(VI n34), (VI n35), (VS p7 n36 c4), (VI n37), (VI n38), (VI n39), (VI n40), (VI n41), (VI n42), (VI n43)])] h15 (fun (v1 : Value) => (fun (h_1 : H) => (∃ b1 : Bool, ((v1 = (VB b1)) ∧ (cond b1
 (N (VT [(VP none), (VI (8 : Int))]) h_1)
 (N (VT [(VP p3), (VI (0 : Int))]) h_1))))))))))))))))))))
 (N (VT [(VP p3), (VI (0 : Int))]) h15))))
 (∃ n33 : Int, (((ld h15 none (addOff (addOff ⟨h1.next, 0, none⟩ 3) 0)) = (some (VI n33))) ∧ (cond (n33 == (7 : Int))
 (∃ n34 : Int, (∃ n35 : Int, (∃ p7 : (Option Addr), (∃ n36 : Nat, (∃ c4 : Nat, (∃ n37 : Int, (∃ n38 : Int, (∃ n39 : Int, (∃ n40 : Int, (∃ n41 : Int, (∃ n42 : Int, (∃ n43 : Int, (((ld h15 (some 10) ⟨h1.next, 0, none⟩) = (some (VA [(VI n34), (VI n35), (VS p7 n36 c4), (VI n37), (VI n38), (VI n39), (VI n40), (VI n41), (VI n42), (VI n43)]))) ∧ (CallP m E (FN 53) [(VP b), (VA [(VI n34), (VI n35), (VS p7 n36 c4), (VI n37), (VI n38), (VI n39), (VI n40), (VI n41), (VI n42), (VI n43)])] h15 (fun (v1 : Value) => (fun (h_1 : H) => (∃ b1 : Bool, ((v1 = (VB b1)) ∧ (cond b1
 (N (VT [(VP none), (VI (8 : Int))]) h_1)
 (N (VT [(VP p3), (VI (0 : Int))]) h_1))))))))))))))))))))
 (N (VT [(VP p3), (VI (0 : Int))]) h15)))))))
 (∃ n32 : Int, (((ld h15 none (addOff (addOff ⟨h1.next, 0, none⟩ 3) 0)) = (some (VI n32))) ∧ (cond (n32 == (7 : Int))
 (∃ n33 : Int, (((ld h15 none (addOff (addOff ⟨h1.next, 0, none⟩ 3) 0)) = (some (VI n33))) ∧ (cond (n33 == (7 : Int))
 (∃ n34 : Int, (∃ n35 : Int, (∃ p7 : (Option Addr), (∃ n36 : Nat, (∃ c4 : Nat, (∃ n37 : Int, (∃ n38 : Int, (∃ n39 : Int, (∃ n40 : Int, (∃ n41 : Int, (∃ n42 : Int, (∃ n43 : Int, (((ld h15 (some 10) ⟨h1.next, 0, none⟩) = (some (VA [(VI n34), (VI n35), (VS p7 n36 c4), (VI n37), (VI n38), (VI n39), (VI n40), (VI n41), (VI n42), (VI n43)]))) ∧ (CallP m E (FN 53) [(VP b), (VA [(VI n34), (VI n35), (VS p7 n36 c4), (VI n37), (VI n38), (VI n39), (VI n40), (VI n41), (VI n42), (VI n43)])] h15 (fun (v1 : Value) => (fun (h_1 : H) => (∃ b1 : Bool, ((v1 = (VB b1)) ∧ (cond b1
 (N (VT [(VP none), (VI (8 : Int))]) h_1)
 (N (VT [(VP p3), (VI (0 : Int))]) h_1))))))))))))))))))))
 (N (VT [(VP p3), (VI (0 : Int))]) h15))))
 (∃ n33 : Int, (((ld h15 none (addOff (addOff ⟨h1.next, 0, none⟩ 3) 0)) = (some (VI n33))) ∧ (cond (n33 == (7 : Int))
 (∃ n34 : Int, (∃ n35 : Int, (∃ p7 : (Option Addr), (∃ n36 : Nat, (∃ c4 : Nat, (∃ n37 : Int, (∃ n38 : Int, (∃ n39 : Int, (∃ n40 : Int, (∃ n41 : Int, (∃ n42 : Int, (∃ n43 : Int, (((ld h15 (some 10) ⟨h1.next, 0, none⟩) = (some (VA [(VI n34), (VI n35), (VS p7 n36 c4), (VI n37), (VI n38), (VI n39), (VI n40), (VI n41), (VI n42), (VI n43)]))) ∧ (CallP m E (FN 53) [(VP b), (VA [(VI n34), (VI n35), (VS p7 n36 c4), (VI n37), (VI n38), (VI n39), (VI n40), (VI n41), (VI n42), (VI n43)])] h15 (fun (v1 : Value) => (fun (h_1 : H) => (∃ b1 : Bool, ((v1 = (VB b1)) ∧ (cond b1
 (N (VT [(VP none), (VI (8 : Int))]) h_1)
 (N (VT [(VP p3), (VI (0 : Int))]) h_1))))))))))))))))))))
 (N (VT [(VP p3), (VI (0 : Int))]) h15)))))))))))))))
 (∃ n30 : Int, (((ld h15 none (addOff (addOff ⟨h1.next, 0, none⟩ 3) 0)) = (some (VI n30))) ∧ (cond (n30 == (7 : Int))
 (∃ n31 : Int, (((ld h15 none (addOff (addOff ⟨h1.next, 0, none⟩ 3) 0)) = (some (VI n31))) ∧ (cond (n31 == (7 : Int))
 (∃ n32 : Int, (((ld h15 none (addOff (addOff ⟨h1.next, 0, none⟩ 3) 0)) = (some (VI n32))) ∧ (cond (n32 == (7 : Int))
 (∃ n33 : Int, (∃ n34 : Int, (∃ p7 : (Option Addr), (∃ n35 : Nat, (∃ c4 : Nat, (∃ n36 : Int, (∃ n37 : Int, (∃ n38 : Int, (∃ n39 : Int, (∃ n40 : Int, (∃ n41 : Int, (∃ n42 : Int, (((ld h15 (some 10) ⟨h1.next, 0, none⟩) = (some (VA [(VI n33), (VI n34), (VS p7 n35 c4), (VI n36), (VI n37), (VI n38), (VI n39), (VI n40), (VI n41), (VI n42)]))) ∧ (CallP m E (FN 53) [(VP b), (VA [(VI n33), (VI n34), (VS p7 n35 c4), (VI n36), (VI n37), (VI n38), (VI n39), (VI n40), (VI n41), (VI n42)])] h15 (fun (v1 : Value) => (fun (h_1 : H) => (∃ b1 : Bool, ((v1 = (VB b1)) ∧ (cond b1
 (N (VT [(VP none), (VI (8 : Int))]) h_1)
 (N (VT [(VP p3), (VI (0 : Int))]) h_1))))))))))))))))))))
 (N (VT [(VP p3), (VI (0 : Int))]) h15))))
 (∃ n32 : Int, (((ld h15 none (addOff (addOff ⟨h1.next, 0, none⟩ 3) 0)) = (some (VI n32))) ∧ (cond (n32 == (7 : Int))
 (∃ n33 : Int, (∃ n34 : Int, (∃ p7 : (Option Addr), (∃ n35 : Nat, (∃ c4 : Nat, (∃ n36 : Int, (∃ n37 : Int, (∃ n38 : Int, (∃ n39 : Int, (∃ n40 : Int, (∃ n41 : Int, (∃ n42 : Int, (((ld h15 (some 10) ⟨h1.next, 0, none⟩) = (some (VA [(VI n33), (VI n34), (VS p7 n35 c4), (VI n36), (VI n37), (VI n38), (VI n39), (VI n40), (VI n41), (VI n42)]))) ∧ (CallP m E (FN 53) [(VP b), (VA [(VI n33), (VI n34), (VS p7 n35 c4), (VI n36), (VI n37), (VI n38), (VI n39), (VI n40), (VI n41), (VI n42)])] h15 (fun (v1 : Value) => (fun (h_1 : H) => (∃ b1 : Bool, ((v1 = (VB b1)) ∧ (cond b1
 (N (VT [(VP none), (VI (8 : Int))]) h_1)
 (N (VT [(VP p3), (VI (0 : Int))]) h_1))))))))))))))))))))
 (N (VT [(VP p3), (VI (0 : Int))]) h15)))))))
 (∃ n31 : Int, (((ld h15 none (addOff (addOff ⟨h1.next, 0, none⟩ 3) 0)) = (some (VI n31))) ∧ (cond (n31 == (7 : Int))
 (∃ n32 : Int, (((ld h15 none (addOff (addOff ⟨h1.next, 0, none⟩ 3) 0)) = (some (VI n32))) ∧ (cond (n32 == (7 : Int))
 (∃ n33 : Int, (∃ n34 : Int, (∃ p7 : (Option Addr), (∃ n35 : Nat, (∃ c4 : Nat, (∃ n36 : Int, (∃ n37 : Int, (∃ n38 : Int, (∃ n39 : Int, (∃ n40 : Int, (∃ n41 : Int, (∃ n42 : Int, (((ld h15 (some 10) ⟨h1.next, 0, none⟩) = (some (VA [(VI n33), (VI n34), (VS p7 n35 c4), (VI n36), (VI n37), (VI n38), (VI n39), (VI n40), (VI n41), (VI n42)]))) ∧ (CallP m E (FN 53) [(VP b), (VA [(VI n33), (VI n34), (VS p7 n35 c4), (VI n36), (VI n37), (VI n38), (VI n39), (VI n40), (VI n41), (VI n42)])] h15 (fun (v1 : Value) => (fun (h_1 : H) => (∃ b1 : Bool, ((v1 = (VB b1)) ∧ (cond b1
 (N (VT [(VP none), (VI (8 : Int))]) h_1)
 (N (VT [(VP p3), (VI (0 : Int))]) h_1))))))))))))))))))))
 (N (VT [(VP p3), (VI (0 : Int))]) h15))))
 (∃ n32 : Int, (((ld h15 none (addOff (addOff ⟨h1.next, 0, none⟩ 3) 0)) = (some (VI n32))) ∧ (cond (n32 == (7 : Int))
 (∃ n33 : Int, (∃ n34 : Int, (∃ p7 : (Option Addr), (∃ n35 : Nat, (∃ c4 : Nat, (∃ n36 : Int, (∃ n37 : Int, (∃ n38 : Int, (∃ n39 : Int, (∃ n40 : Int, (∃ n41 : Int, (∃ n42 : Int, (((ld h15 (some 10) ⟨h1.next, 0, none⟩) = (some (VA [(VI n33), (VI n34), (VS p7 n35 c4), (VI n36), (VI n37), (VI n38), (VI n39), (VI n40), (VI n41), (VI n42)]))) ∧ (CallP m E (FN 53) [(VP b), (VA [(VI n33), (VI n34), (VS p7 n35 c4), (VI n36), (VI n37), (VI n38), (VI n39), (VI n40), (VI n41), (VI n42)])] h15 (fun (v1 : Value) => (fun (h_1 : H) => (∃ b1 : Bool, ((v1 = (VB b1)) ∧ (cond b1
 (N (VT [(VP none), (VI (8 : Int))]) h_1)
 (N (VT [(VP p3), (VI (0 : Int))]) h_1))))))))))))))))))))
 (N (VT [(VP p3), (VI (0 : Int))]) h15)))))))))))))))))))))))))))))))))))))))))))))))))))
 (∀ h15 : H, ((h15 = (H.skipTo h14 (h14.next + 14))) → (∃ n21 : Int, (((ld h15 none (addOff ⟨h1.next, 0, none⟩ 0)) = (some (VI n21))) ∧ (cond (n19 == n21)
 (optP p3 (fun (a3 : Addr) => (∃ p4 : (Option Nat), (((ld h15 none (addOff a3 1)) = (some (Value.map p4))) ∧ (∃ n22 : Int, (((ld h15 none (addOff ⟨h1.next, 0, none⟩ 0)) = (some (VI n22))) ∧ (∃ n23 : Int, (((readV h15 (AOp.lookup (EK.leaf LK.int) (VI (0 : Int)) Bool.false (Operand.const (Value.map p4)) (Operand.const (VI n22)))) = (some (VI n23))) ∧ (cond (ltI (0 : Int) n23)
 (∃ n24 : Int, (((ld h15 none (addOff (addOff ⟨h1.next, 0, none⟩ 3) 0)) = (some (VI n24))) ∧ (cond (n24 == (8 : Int))
 (N (VT [(VP none), (VI (8 : Int))]) h15)
 (∃ n25 : Int, (((ld h15 none (addOff (addOff ⟨h1.next, 0, none⟩ 3) 0)) = (some (VI n25))) ∧ (cond (n25 == (8 : Int))
 (optP p3 (fun (a4 : Addr) => (∃ n26 : Int, (((ld h15 none (addOff a4 2)) = (some (VI n26))) ∧ (cond (ltI (0 : Int) n26)
 (N (VT [(VP none), (VI (7 : Int))]) h15)
 (∃ n27 : Int, (((ld h15 none (addOff (addOff ⟨h1.next, 0, none⟩ 3) 0)) = (some (VI n27))) ∧ (cond (n27 == (7 : Int))
 (N (VT [(VP none), (VI (7 : Int))]) h15)
 (∃ n28 : Int, (((ld h15 none (addOff (addOff ⟨h1.next, 0, none⟩ 3) 0)) = (some (VI n28))) ∧ (cond (n28 == (7 : Int))
 (optP p3 (fun (a5 : Addr) => (∃ n29 : Int, (((ld h15 none (addOff a5 2)) = (some (VI n29))) ∧ (cond (ltI (0 : Int) n29)
 (N (VT [(VP none), (VI (8 : Int))]) h15)
 (∃ n30 : Int, (∃ n31 : Int, (∃ p5 : (Option Addr), (∃ n32 : Nat, (∃ c2 : Nat, (∃ n33 : Int, (∃ n34 : Int, (∃ n35 : Int, (∃ n36 : Int, (∃ n37 : Int, (∃ n38 : Int, (∃ n39 : Int, (((ld h15 (some 10) ⟨h1.next, 0, none⟩) = (some (VA [(VI n30), (VI n31), (VS p5 n32 c2), (VI n33), (VI n34), (VI n35), (VI n36), (VI n37), (VI n38), (VI n39)]))) ∧ (CallP m E (FN 52) [(VP b), (VP p3), (VA [(VI n30), (VI n31), (VS p5 n32 c2), (VI n33), (VI n34), (VI n35), (VI n36), (VI n37), (VI n38), (VI n39)])] h15 (fun (v1 : Value) => (fun (h_1 : H) => (∃ b1 : Bool, ((v1 = (VB b1)) ∧ (cond b1
 (∃ n40 : Int, (((ld h_1 none (addOff (addOff ⟨h1.next, 0, none⟩ 3) 0)) = (some (VI n40))) ∧ (cond (n40 == (7 : Int))
 (∃ n41 : Int, (∃ n42 : Int, (∃ p6 : (Option Addr), (∃ n43 : Nat, (∃ c3 : Nat, (∃ n44 : Int, (∃ n45 : Int, (∃ n46 : Int, (∃ n47 : Int, (∃ n48 : Int, (∃ n49 : Int, (∃ n50 : Int, (((ld h_1 (some 10) ⟨h1.next, 0, none⟩) = (some (VA [(VI n41), (VI n42), (VS p6 n43 c3), (VI n44), (VI n45), (VI n46), (VI n47), (VI n48), (VI n49), (VI n50)]))) ∧ (CallP m E (FN 53) [(VP b), (VA [(VI n41), (VI n42), (VS p6 n43 c3), (VI n44), (VI n45), (VI n46), (VI n47), (VI n48), (VI n49), (VI n50)])] h_1 (fun (v2 : Value) => (fun (h_2 : H) => (∃ b2 : Bool, ((v2 = (VB b2)) ∧ (cond b2
 (N (VT [(VP none), (VI (8 : Int))]) h_2)
 (N (VT [(VP p3), (VI (0 : Int))]) h_2))))))))))))))))))))
 (N (VT [(VP p3), (VI (0 : Int))]) h_1))))
 (N (VT [(VP none), (VI (8 : Int))]) h_1)))))))))))))))))))))))))
 (∃ n29 : Int, (((ld h15 none (addOff (addOff ⟨h1.next, 0, none⟩ 3) 0)) = (some (VI n29))) ∧ (cond (n29 == (7 : Int))
 (∃ n30 : Int, (∃ n31 : Int, (∃ p5 : (Option Addr), (∃ n32 : Nat, (∃ c2 : Nat, (∃ n33 : Int, (∃ n34 : Int, (∃ n35 : Int, (∃ n36 : Int, (∃ n37 : Int, (∃ n38 : Int, (∃ n39 : Int, (((ld h15 (some 10) ⟨h1.next, 0, none⟩) = (some (VA [(VI n30), (VI n31), (VS p5 n32 c2), (VI n33), (VI n34), (VI n35), (VI n36), (VI n37), (VI n38), (VI n39)]))) ∧ (CallP m E (FN 53) [(VP b), (VA [(VI n30), (VI n31), (VS p5 n32 c2), (VI n33), (VI n34), (VI n35), (VI n36), (VI n37), (VI n38), (VI n39)])] h15 (fun (v1 : Value) => (fun (h_1 : H) => (∃ b1 : Bool, ((v1 = (VB b1)) ∧ (cond b1
 (N (VT [(VP none), (VI (8 : Int))]) h_1)
 (N (VT [(VP p3), (VI (0 : Int))]) h_1))))))))))))))))))))
 (N (VT [(VP p3), (VI (0 : Int))]) h15)))))))))))))))
 (∃ n26 : Int, (((ld h15 none (addOff (addOff ⟨h1.next, 0, none⟩ 3) 0)) = (some (VI n26))) ∧ (cond (n26 == (7 : Int))
 (N (VT [(VP none), (VI (7 : Int))]) h15)
 (∃ n27 : Int, (((ld h15 none (addOff (addOff ⟨h1.next, 0, none⟩ 3) 0)) = (some (VI n27))) ∧ (cond (n27 == (7 : Int))
 (optP p3 (fun (a4 : Addr) => (∃ n28 : Int, (((ld h15 none (addOff a4 2)) = (some (VI n28))) ∧ (cond (ltI (0 : Int) n28)
 (N (VT [(VP none), (VI (8 : Int))]) h15)
 (∃ n29 : Int, (∃ n30 : Int, (∃ p5 : (Option Addr), (∃ n31 : Nat, (∃ c2 : Nat, (∃ n32 : Int, (∃ n33 : Int, (∃ n34 : Int, (∃ n35 : Int, (∃ n36 : Int, (∃ n37 : Int, (∃ n38 : Int, (((ld h15 (some 10) ⟨h1.next, 0, none⟩) = (some (VA [(VI n29), (VI n30), (VS p5 n31 c2), (VI n32), (VI n33), (VI n34), (VI n35), (VI n36), (VI n37), (VI n38)]))) ∧ (CallP m E (FN 52) [(VP b), (VP p3), (VA [(VI n29), (VI n30), (VS p5 n31 c2), (VI n32), (VI n33), (VI n34), (VI n35), (VI n36), (VI n37), (VI n38)])] h15 (fun (v1 : Value) => (fun (h_1 : H) => (∃ b1 : Bool, ((v1 = (VB b1)) ∧ (cond b1
 (∃ n39 : Int, (((ld h_1 none (addOff (addOff ⟨h1.next, 0, none⟩ 3) 0)) = (some (VI n39))) ∧ (cond (n39 == (7 : Int))
 (∃ n40 : Int, (∃ n41 : Int, (∃ p6 : (Option Addr), (∃ n42 : Nat, (∃ c3 : Nat, (∃ n43 : Int, (∃ n44 : Int, (∃ n45 : Int, (∃ n46 : Int, (∃ n47 : Int, (∃ n48 : Int, (∃ n49 : Int, (((ld h_1 (some 10) ⟨h1.next, 0, none⟩) = (some (VA [(VI n40), (VI n41), (VS p6 n42 c3), (VI n43), (VI n44), (VI n45), (VI n46), (VI n47), (VI n48), (VI n49)]))) ∧ (CallP m E (FN 53) [(VP b), (VA [(VI n40), (VI n41), (VS p6 n42 c3), (VI n43), (VI n44), (VI n45), (VI n46), (VI n47), (VI n48), (VI n49)])] h_1 (fun (v2 : Value) => (fun (h_2 : H) => (∃ b2 : Bool, ((v2 = (VB b2)) ∧ (cond b2
 (N (VT [(VP none), (VI (8 : Int))]) h_2)
 (N (VT [(VP p3), (VI (0 : Int))]) h_2))))))))))))))))))))
 (N (VT [(VP p3), (VI (0 : Int))]) h_1))))
 (N (VT [(VP none), (VI (8 : Int))]) h_1)))))))))))))))))))))))))
 (∃ n28 : Int, (((ld h15 none (addOff (addOff ⟨h1.next, 0, none⟩ 3) 0)) = (some (VI n28))) ∧ (cond (n28 == (7 : Int))
 (∃ n29 : Int, (∃ n30 : Int, (∃ p5 : (Option Addr), (∃ n31 : Nat, (∃ c2 : Nat, (∃ n32 : Int, (∃ n33 : Int, (∃ n34 : Int, (∃ n35 : Int, (∃ n36 : Int, (∃ n37 : Int, (∃ n38 : Int, (((ld h15 (some 10) ⟨h1.next, 0, none⟩) = (some (VA [(VI n29), (VI n30), (VS p5 n31 c2), (VI n32), (VI n33), (VI n34), (VI n35), (VI n36), (VI n37), (VI n38)]))) ∧ (CallP m E (FN 53) [(VP b), (VA [(VI n29), (VI n30), (VS p5 n31 c2), (VI n32), (VI n33), (VI n34), (VI n35), (VI n36), (VI n37), (VI n38)])] h15 (fun (v1 : Value) => (fun (h_1 : H) => (∃ b1 : Bool, ((v1 = (VB b1)) ∧ (cond b1
 (N (VT [(VP none), (VI (8 : Int))]) h_1)
 (N (VT [(VP p3), (VI (0 : Int))]) h_1))))))))))))))))))))
 (N (VT [(VP p3), (VI (0 : Int))]) h15))))))))))))))))
 (∃ n24 : Int, (((ld h15 none (addOff (addOff ⟨h1.next, 0, none⟩ 3) 0)) = (some (VI n24))) ∧ (cond (n24 == (8 : Int))
 (∃ n25 : Int, (((ld h15 none (addOff (addOff ⟨h1.next, 0, none⟩ 3) 0)) = (some (VI n25))) ∧ (cond (n25 == (8 : Int))
 (optP p3 (fun (a4 : Addr) => (∃ n26 : Int, (((ld h15 none (addOff a4 2)) = (some (VI n26))) ∧ (cond (ltI (0 : Int) n26)
 (N (VT [(VP none), (VI (7 : Int))]) h15)
 (∃ n27 : Int, (((ld h15 none (addOff (addOff ⟨h1.next, 0, none⟩ 3) 0)) = (some (VI n27))) ∧ (cond (n27 == (7 : Int))
 (∃ n28 : Int, (((ld h15 none (addOff (addOff ⟨h1.next, 0, none⟩ 3) 0)) = (some (VI n28))) ∧ (cond (n28 == (7 : Int))
 (optP p3 (fun (a5 : Addr) => (∃ n29 : Int, (((ld h15 none (addOff a5 2)) = (some (VI n29))) ∧ (cond (ltI (0 : Int) n29)
 (N (VT [(VP none), (VI (8 : Int))]) h15)
 (∃ n30 : Int, (∃ n31 : Int, (∃ p5 : (Option Addr), (∃ n32 : Nat, (∃ c2 : Nat, (∃ n33 : Int, (∃ n34 : Int, (∃ n35 : Int, (∃ n36 : Int, (∃ n37 : Int, (∃ n38 : Int, (∃ n39 : Int, (((ld h15 (some 10) ⟨h1.next, 0, none⟩) = (some (VA [(VI n30), (VI n31), (VS p5 n32 c2), (VI n33), (VI n34), (VI n35), (VI n36), (VI n37), (VI n38), (VI n39)]))) ∧ (CallP m E (FN 52) [(VP b), (VP p3), (VA [(VI n30), (VI n31), (VS p5 n32 c2), (VI n33), (VI n34), (VI n35), (VI n36), (VI n37), (VI n38), (VI n39)])] h15 (fun (v1 : Value) => (fun (h_1 : H) => (∃ b1 : Bool, ((v1 = (VB b1)) ∧ (cond b1
 (∃ n40 : Int, (((ld h_1 none (addOff (addOff ⟨h1.next, 0, none⟩ 3) 0)) = (some (VI n40))) ∧ (cond (n40 == (7 : Int))
 (∃ n41 : Int, (∃ n42 : Int, (∃ p6 : (Option Addr), (∃ n43 : Nat, (∃ c3 : Nat, (∃ n44 : Int, (∃ n45 : Int, (∃ n46 : Int, (∃ n47 : Int, (∃ n48 : Int, (∃ n49 : Int, (∃ n50 : Int, (((ld h_1 (some 10) ⟨h1.next, 0, none⟩) = (some (VA [(VI n41), (VI n42), (VS p6 n43 c3), (VI n44), (VI n45), (VI n46), (VI n47), (VI n48), (VI n49), (VI n50)]))) ∧ (CallP m E (FN 53) [(VP b), (VA [(VI n41), (VI n42), (VS p6 n43 c3), (VI n44), (VI n45), (VI n46), (VI n47), (VI n48), (VI n49), (VI n50)])] h_1 (fun (v2 : Value) => (fun (h_2 : H) => (∃ b2 : Bool, ((v2 = (VB b2)) ∧ (cond b2
 (N (VT [(VP none), (VI (8 : Int))]) h_2)
 (N (VT [(VP p3), (VI (0 : Int))]) h_2))))))))))))))))))))
 (N (VT [(VP p3), (VI (0 : Int))]) h_1))))
 (N (VT [(VP none), (VI (8 : Int))]) h_1)))))))))))))))))))))))))
 (∃ n29 : Int, (((ld h15 none (addOff (addOff ⟨h1.next, 0, none⟩ 3) 0)) = (some (VI n29))) ∧ (cond (n29 == (7 : Int))
 (∃ n30 : Int, (∃ n31 : Int, (∃ p5 : (Option Addr), (∃ n32 : Nat, (∃ c2 : Nat, (∃ n33 : Int, (∃ n34 : Int, (∃ n35 : Int, (∃ n36 : Int, (∃ n37 : Int, (∃ n38 : Int, (∃ n39 : Int, (((ld h15 (some 10) ⟨h1.next, 0, none⟩) = (some (VA [(VI n30), (VI n31), (VS p5 n32 c2), (VI n33), (VI n34), (VI n35), (VI n36), (VI n37), (VI n38), (VI n39)]))) ∧ (CallP m E (FN 53) [(VP b), (VA [(VI n30), (VI n31), (VS p5 n32 c2), (VI n33), (VI n34), (VI n35), (VI n36), (VI n37), (VI n38), (VI n39)])] h15 (fun (v1 : Value) => (fun (h_1 : H) => (∃ b1 : Bool, ((v1 = (VB b1)) ∧ (cond b1
 (N (VT [(VP none), (VI (8 : Int))]) h_1)
 (N (VT [(VP p3), (VI (0 : Int))]) h_1))))))))))))))))))))
 (N (VT [(VP p3), (VI (0 : Int))]) h15)))))))
 (∃ n28 : Int, (((ld h15 none (addOff (addOff ⟨h1.next, 0, none⟩ 3) 0)) = (some (VI n28))) ∧ (cond (n28 == (7 : Int))
 (optP p3 (fun (a5 : Addr) => (∃ n29 : Int, (((ld h15 none (addOff a5 2)) = (some (VI n29))) ∧ (cond (ltI (0 : Int) n29)
 (N (VT [(VP none), (VI (8 : Int))]) h15)
 (∃ n30 : Int, (∃ n31 : Int, (∃ p5 : (Option Addr), (∃ n32 : Nat, (∃ c2 : Nat, (∃ n33 : Int, (∃ n34 : Int, (∃ n35 : Int, (∃ n36 : Int, (∃ n37 : Int, (∃ n38 : Int, (∃ n39 : Int, (((ld h15 (some 10) ⟨h1.next, 0, none⟩) = (some (VA [(VI n30), (VI n31), (VS p5 n32 c2), (VI n33), (VI n34), (VI n35), (VI n36), (VI n37), (VI n38), (VI n39)]))) ∧ (CallP m E (FN 52) [(VP b), (VP p3), (VA [(VI n30), (VI n31), (VS p5 n32 c2), (VI n33), (VI n34), (VI n35), (VI n36), (VI n37), (VI n38), (VI n39)])] h15 (fun (v1 : Value) => (fun (h_1 : H) => (∃ b1 : Bool, ((v1 = (VB b1)) ∧ (cond b1
 (∃ n40 : Int, (((ld h_1 none (addOff (addOff ⟨h1.next, 0, none⟩ 3) 0)) = (some (VI n40))) ∧ (cond (n40 == (7 : Int))
 (∃ n41 : Int, (∃ n42 : Int, (∃ p6 : (Option Addr), (∃ n43 : Nat, (∃ c3 : Nat, (∃ n44 : Int, (∃ n45 : Int, (∃ n46 : Int, (∃ n47 : Int, (∃ n48 : Int, (∃ n49 : Int, (∃ n50 : Int, (((ld h_1 (some 10) ⟨h1.next, 0, none⟩) = (some (VA [(VI n41), (VI n42), (VS p6 n43 c3), (VI n44), (VI n45), (VI n46), (VI n47), (VI n48), (VI n49), (VI n50)]))) ∧ (CallP m E (FN 53) [(VP b), (VA [(VI n41), (VI n42), (VS p6 n43 c3), (VI n44), (VI n45), (VI n46), (VI n47), (VI n48), (VI n49), (VI n50)])] h_1 (fun (v2 : Value) => (fun (h_2 : H) => (∃ b2 : Bool, ((v2 = (VB b2)) ∧ (cond b2
 (N (VT [(VP none), (VI (8 : Int))]) h_2)
 (N (VT [(VP p3), (VI (0 : Int))]) h_2))))))))))))))))))))
 (N (VT [(VP p3), (VI (0 : Int))]) h_1))))
 (N (VT [(VP none), (VI (8 : Int))]) h_1)))))))))))))))))))))))))
 (∃ n29 : Int, (((ld h15 none (addOff (addOff ⟨h1.next, 0, none⟩ 3) 0)) = (some (VI n29))) ∧ (cond (n29 == (7 : Int))
 (∃ n30 : Int, (∃ n31 : Int, (∃ p5 : (Option Addr), (∃ n32 : Nat, (∃ c2 : Nat, (∃ n33 : Int, (∃ n34 : Int, (∃ n35 : Int, (∃ n36 : Int, (∃ n37 : Int, (∃ n38 : Int, (∃ n39 : Int, (((ld h15 (some 10) ⟨h1.next, 0, none⟩) = (some (VA [(VI n30), (VI n31), (VS p5 n32 c2), (VI n33), (VI n34), (VI n35), (VI n36), (VI n37), (VI n38), (VI n39)]))) ∧ (CallP m E (FN 53) [(VP b), (VA [(VI n30), (VI n31), (VS p5 n32 c2), (VI n33), (VI n34), (VI n35), (VI n36), (VI n37), (VI n38), (VI n39)])] h15 (fun (v1 : Value) => (fun (h_1 : H) => (∃ b1 : Bool, ((v1 = (VB b1)) ∧ (cond b1
 (N (VT [(VP none), (VI (8 : Int))]) h_1)
 (N (VT [(VP p3), (VI (0 : Int))]) h_1))))))))))))))))))))
 (N (VT [(VP p3), (VI (0 : Int))]) h15)))))))))))))))
 (∃ n26 : Int, (((ld h15 none (addOff (addOff ⟨h1.next, 0, none⟩ 3) 0)) = (some (VI n26))) ∧ (cond (n26 == (7 : Int))
 (∃ n27 : Int, (((ld h15 none (addOff (addOff ⟨h1.next, 0, none⟩ 3) 0)) = (some (VI n27))) ∧ (cond (n27 == (7 : Int))
 (optP p3 (fun (a4 : Addr) => (∃ n28 : Int, (((ld h15 none (addOff a4 2)) = (some (VI n28))) ∧ (cond (ltI (0 : Int) n28)
 (N (VT [(VP none), (VI (8 : Int))]) h15)
 (∃ n29 : Int, (∃ n30 : Int, (∃ p5 : (Option Addr), (∃ n31 : Nat, (∃ c2 : Nat, (∃ n32 : Int, (∃ n33 : Int, (∃ n34 : Int, (∃ n35 : Int, (∃ n36 : Int, (∃ n37 : Int, (∃ n38 : Int, (((ld h15 (some 10) ⟨h1.next, 0, none⟩) = (some (VA [(VI n29), (VI n30), (VS p5 n31 c2), (VI n32), (VI n33), (VI n34), (VI n35), (VI n36), (VI n37), (VI n38)]))) ∧ (CallP m E (FN 52) [(VP b), (VP p3), (VA [(VI n29), (VI n30), (VS p5 n31 c2), (VI n32), (VI n33), (VI n34), (VI n35), (VI n36), (VI n37), (VI n38)])] h15 (fun (v1 : Value) => (fun (h_1 : H) => (∃ b1 : Bool, ((v1 = (VB b1)) ∧ (cond b1
 (∃ n39 : Int, (((ld h_1 none (addOff (addOff ⟨h1.next, 0, none⟩ 3) 0)) = (some (VI n39))) ∧ (cond (n39 == (7 : Int))
 (∃ n40 : Int, (∃ n41 : Int, (∃ p6 : (Option Addr), (∃ n42 : Nat, (∃ c3 : Nat, (∃ n43 : Int, (∃ n44 : Int, (∃ n45 : Int, (∃ n46 : Int, (∃ n47 : Int, (∃ n48 : Int, (∃ n49 : Int, (((ld h_1 (some 10) ⟨h1.next, 0, none⟩) = (some (VA [(VI n40), (VI n41), (VS p6 n42 c3), (VI n43), (VI n44), (VI n45), (VI n46), (VI n47), (VI n48), (VI n49)]))) ∧ (CallP m E (FN 53) [(VP b), (VA [(VI n40), (VI n41), (VS p6 n42 c3), (VI n43), (VI n44), (VI n45), (VI n46), (VI n47), (VI n48), (VI n49)])] h_1 (fun (v2 : Value) => (fun (h_2 : H) => (∃ b2 : Bool, ((v2 = (VB b2)) ∧ (cond b2
 (N (VT [(VP none), (VI (8 : Int))]) h_2)
 (N (VT [(VP p3), (VI (0 : Int))]) h_2))))))))))))))))))))
 (N (VT [(VP p3), (VI (0 : Int))]) h_1))))
 (N (VT [(VP none), (VI (8 : Int))]) h_1)))))))))))))))))))))))))
 (∃ n28 : Int, (((ld h15 none (addOff (addOff ⟨h1.next, 0, none⟩ 3) 0)) = (some (VI n28))) ∧ (cond (n28 == (7 : Int))
 (∃ n29 : Int, (∃ n30 : Int, (∃ p5 : (Option Addr), (∃ n31 : Nat, (∃ c2 : Nat, (∃ n32 : Int, (∃ n33 : Int, (∃ n34 : Int, (∃ n35 : Int, (∃ n36 : Int, (∃ n37 : Int, (∃ n38 : Int, (((ld h15 (some 10) ⟨h1.next, 0, none⟩) = (some (VA [(VI n29), (VI n30), (VS p5 n31 c2), (VI n32), (VI n33), (VI n34), (VI n35), (VI n36), (VI n37), (VI n38)]))) ∧ (CallP m E (FN 53) [(VP b), (VA [(VI n29), (VI n30), (VS p5 n31 c2), (VI n32), (VI n33), (VI n34), (VI n35), (VI n36), (VI n37), (VI n38)])] h15 (fun (v1 : Value) => (fun (h_1 : H) => (∃ b1 : Bool, ((v1 = (VB b1)) ∧ (cond b1
 (N (VT [(VP none), (VI (8 : Int))]) h_1)
 (N (VT [(VP p3), (VI (0 : Int))]) h_1))))))))))))))))))))
 (N (VT [(VP p3), (VI (0 : Int))]) h15)))))))
 (∃ n27 : Int, (((ld h15 none (addOff (addOff ⟨h1.next, 0, none⟩ 3) 0)) = (some (VI n27))) ∧ (cond (n27 == (7 : Int))
 (optP p3 (fun (a4 : Addr) => (∃ n28 : Int, (((ld h15 none (addOff a4 2)) = (some (VI n28))) ∧ (cond (ltI (0 : Int) n28)
 (N (VT [(VP none), (VI (8 : Int))]) h15)
 (∃ n29 : Int, (∃ n30 : Int, (∃ p5 : (Option Addr), (∃ n31 : Nat, (∃ c2 : Nat, (∃ n32 : Int, (∃ n33 : Int, (∃ n34 : Int, (∃ n35 : Int, (∃ n36 : Int, (∃ n37 : Int, (∃ n38 : Int, (((ld h15 (some 10) ⟨h1.next, 0, none⟩) = (some (VA [(VI n29), (VI n30), (VS p5 n31 c2), (VI n32), (VI n33), (VI n34), (VI n35), (VI n36), (VI n37), (VI n38)]))) ∧ (CallP m E (FN 52) [(VP b), (VP p3), (VA [(VI n29), (VI n30), (VS p5 n31 c2), (VI n32), (VI n33), (VI n34), (VI n35), (VI n36), (VI n37), (VI n38)])] h15 (fun (v1 : Value) => (fun (h_1 : H) => (∃ b1 : Bool, ((v1 = (VB b1)) ∧ (cond b1
 (∃ n39 : Int, (((ld h_1 none (addOff (addOff ⟨h1.next, 0, none⟩ 3) 0)) = (some (VI n39))) ∧ (cond (n39 == (7 : Int))
 (∃ n40 : Int, (∃ n41 : Int, (∃ p6 : (Option Addr), (∃ n42 : Nat, (∃ c3 : Nat, (∃ n43 : Int, (∃ n44 : Int, (∃ n45 : Int, (∃ n46 : Int, (∃ n47 : Int, (∃ n48 : Int, (∃ n49 : Int, (((ld h_1 (some 10) ⟨h1.next, 0, none⟩) = (some (VA [(VI n40), (VI n41), (VS p6 n42 c3), (VI n43), (VI n44), (VI n45), (VI n46), (VI n47), (VI n48), (VI n49)]))) ∧ (CallP m E (FN 53) [(VP b), (VA [(VI n40), (VI n41), (VS p6 n42 c3), (VI n43), (VI n44), (VI n45), (VI n46), (VI n47), (VI n48), (VI n49)])] h_1 (fun (v2 : Value) => (fun (h_2 : H) => (∃ b2 : Bool, ((v2 = (VB b2)) ∧ (cond b2
 (N (VT [(VP none), (VI (8 : Int))]) h_2)
 (N (VT [(VP p3), (VI (0 : Int))]) h_2))))))))))))))))))))
 (N (VT [(VP p3), (VI (0 : Int))]) h_1))))
 (N (VT [(VP none), (VI (8 : Int))]) h_1)))))))))))))))))))))))))
 (∃ n28 : Int, (((ld h15 none (addOff (addOff ⟨h1.next, 0, none⟩ 3) 0)) = (some (VI n28))) ∧ (cond (n28 == (7 : Int))
 (∃ n29 : Int, (∃ n30 : Int, (∃ p5 : (Option Addr), (∃ n31 : Nat, (∃ c2 : Nat, (∃ n32 : Int, (∃ n33 : Int, (∃ n34 : Int, (∃ n35 : Int, (∃ n36 : Int, (∃ n37 : Int, (∃ n38 : Int, (((ld h15 (some 10) ⟨h1.next, 0, none⟩) = (some (VA [(VI n29), (VI n30), (VS p5 n31 c2), (VI n32), (VI n33), (VI n34), (VI n35), (VI n36), (VI n37), (VI n38)]))) ∧ (CallP m E (FN 53) [(VP b), (VA [(VI n29), (VI n30), (VS p5 n31 c2), (VI n32), (VI n33), (VI n34), (VI n35), (VI n36), (VI n37), (VI n38)])] h15 (fun (v1 : Value) => (fun (h_1 : H) => (∃ b1 : Bool, ((v1 = (VB b1)) ∧ (cond b1
 (N (VT [(VP none), (VI (8 : Int))]) h_1)
 (N (VT [(VP p3), (VI (0 : Int))]) h_1))))))))))))))))))))
 (N (VT [(VP p3), (VI (0 : Int))]) h15)))))))))))))
 (∃ n25 : Int, (((ld h15 none (addOff (addOff ⟨h1.next, 0, none⟩ 3) 0)) = (some (VI n25))) ∧ (cond (n25 == (8 : Int))
 (optP p3 (fun (a4 : Addr) => (∃ n26 : Int, (((ld h15 none (addOff a4 2)) = (some (VI n26))) ∧ (cond (ltI (0 : Int) n26)
 (N (VT [(VP none), (VI (7 : Int))]) h15)
 (∃ n27 : Int, (((ld h15 none (addOff (addOff ⟨h1.next, 0, none⟩ 3) 0)) = (some (VI n27))) ∧ (cond (n27 == (7 : Int))
 (∃ n28 : Int, (((ld h15 none (addOff (addOff ⟨h1.next, 0, none⟩ 3) 0)) = (some (VI n28))) ∧ (cond (n28 == (7 : Int))
 (optP p3 (fun (a5 : Addr) => (∃ n29 : Int, (((ld h15 none (addOff a5 2)) = (some (VI n29))) ∧ (cond (ltI (0 : Int) n29)
 (N (VT [(VP none), (VI (8 : Int))]) h15)
 (∃ n30 : Int, (∃ n31 : Int, (∃ p5 : (Option Addr), (∃ n32 : Nat, (∃ c2 : Nat, (∃ n33 : Int, (∃ n34 : Int, (∃ n35 : Int, (∃ n36 : Int, (∃ n37 : Int, (∃ n38 : Int, (∃ n39 : Int, (((ld h15 (some 10) ⟨h1.next, 0, none⟩) = (some (VA [(VI n30), (VI n31), (VS p5 n32 c2), (VI n33), (VI n34), (VI n35), (VI n36), (VI n37), (VI n38), (VI n39)]))) ∧ (CallP m E (FN 52) [(VP b), (VP p3), (VA [(VI n30), (VI n31), (VS p5 n32 c2), (VI n33), (VI n34), (VI n35), (VI n36), (VI n37), (VI n38), (VI n39)])] h15 (fun (v1 : Value) => (fun (h_1 : H) => (∃ b1 : Bool, ((v1 = (VB b1)) ∧ (cond b1
 (∃ n40 : Int, (((ld h_1 none (addOff (addOff ⟨h1.next, 0, none⟩ 3) 0)) = (some (VI n40))) ∧ (cond (n40 == (7 : Int))
 (∃ n41 : Int, (∃ n42 : Int, (∃ p6 : (Option Addr), (∃ n43 : Nat, (∃ c3 : Nat, (∃ n44 : Int, (∃ n45 : Int, (∃ n46 : Int, (∃ n47 : Int, (∃ n48 : Int, (∃ n49 : Int, (∃ n50 : Int, (((ld h_1 (some 10) ⟨h1.next, 0, none⟩) = (some (VA [(VI n41), (VI n42), (VS p6 n43 c3), (VI n44), (VI n45), (VI n46), (VI n47), (VI n48), (VI n49), (VI n50)]))) ∧ (CallP m E (FN 53) [(VP b), (VA [(VI n41), (VI n42), (VS p6 n43 c3), (VI n44), (VI n45), (VI n46), (VI n47), (VI n48), (VI n49), (VI n50)])] h_1 (fun (v2 : Value) => (fun (h_2 : H) => (∃ b2 : Bool, ((v2 = (VB b2)) ∧ (cond b2
 (N (VT [(VP none), (VI (8 : Int))]) h_2)
 (N (VT [(VP p3), (VI (0 : Int))]) h_2))))))))))))))))))))
 (N (VT [(VP p3), (VI (0 : Int))]) h_1))))
 (N (VT [(VP none), (VI (8 : Int))]) h_1)))))))))))))))))))))))))
 (∃ n29 : Int, (((ld h15 none (addOff (addOff ⟨h1.next, 0, none⟩ 3) 0)) = (some (VI n29))) ∧ (cond (n29 == (7 : Int))
 (∃ n30 : Int, (∃ n31 : Int, (∃ p5 : (Option Addr), (∃ n32 : Nat, (∃ c2 : Nat, (∃ n33 : Int, (∃ n34 : Int, (∃ n35 : Int, (∃ n36 : Int, (∃ n37 : Int, (∃ n38 : Int, (∃ n39 : Int, (((ld h15 (some 10) ⟨h1.next, 0, none⟩) = (some (VA [(VI n30), (VI n31), (VS p5 n32 c2), (VI n33), (VI n34), (VI n35), (VI n36), (VI n37), (VI n38), (VI n39)]))) ∧ (CallP m E (FN 53) [(VP b), (VA [(VI n30), (VI n31), (VS p5 n32 c2), (VI n33), (VI n34), (VI n35), (VI n36), (VI n37), (VI n38), (VI n39)])] h15 (fun (v1 : Value) => (fun (h_1 : H) => (∃ b1 : Bool, ((v1 = (VB b1)) ∧ (cond b1
 (N (VT [(VP none), (VI (8 : Int))]) h_1)
 (N (VT [(VP p3), (VI (0 : Int))]) h_1))))))))))))))))))))
 (N (VT [(VP p3), (VI (0 : Int))]) h15)))))))
 (∃ n28 : Int, (((ld h15 none (addOff (addOff ⟨h1.next, 0, none⟩ 3) 0)) = (some (VI n28))) ∧ (cond (n28 == (7 : Int))
 (optP p3 (fun (a5 : Addr) => (∃ n29 : Int, (((ld h15 none (addOff a5 2)) = (some (VI n29))) ∧ (cond (ltI (0 : Int) n29)
 (N (VT [(VP none), (VI (8 : Int))]) h15)
 (∃ n30 : Int, (∃ n31 : Int, (∃ p5 : (Option Addr), (∃ n32 : Nat, (∃ c2 : Nat, (∃ n33 : Int, (∃ n34 : Int, (∃ n35 : Int, (∃ n36 : Int, (∃ n37 : Int, (∃ n38 : Int, (∃ n39 : Int, (((ld h15 (some 10) ⟨h1.next, 0, none⟩) = (some (VA [(VI n30), (VI n31), (VS p5 n32 c2), (VI n33), (VI n34), (VI n35), (VI n36), (VI n37), (VI n38), (VI n39)]))) ∧ (CallP m E (FN 52) [(VP b), (VP p3), (VA [(VI n30), (VI n31), (VS p5 n32 c2), (VI n33), (VI n34), (VI n35), (VI n36), (VI n37), (VI n38), (VI n39)])] h15 (fun (v1 : Value) => (fun (h_1 : H) => (∃ b1 : Bool, ((v1 = (VB b1)) ∧ (cond b1
 (∃ n40 : Int, (((ld h_1 none (addOff (addOff ⟨h1.next, 0, none⟩ 3) 0)) = (some (VI n40))) ∧ (cond (n40 == (7 : Int))
 (∃ n41 : Int, (∃ n42 : Int, (∃ p6 : (Option Addr), (∃ n43 : Nat, (∃ c3 : Nat, (∃ n44 : Int, (∃ n45 : Int, (∃ n46 : Int, (∃ n47 : Int, (∃ n48 : Int, (∃ n49 : Int, (∃ n50 : Int, (((ld h_1 (some 10) ⟨h1.next, 0, none⟩) = (some (VA [(VI n41), (VI n42), (VS p6 n43 c3), (VI n44), (VI n45), (VI n46), (VI n47), (VI n48), (VI n49), (VI n50)]))) ∧ (CallP m E (FN 53) [(VP b), (VA [(VI n41), (VI n42), (VS p6 n43 c3), (VI n44), (VI n45), (VI n46), (VI n47), (VI n48), (VI n49), (VI n50)])] h_1 (fun (v2 : Value) => (fun (h_2 : H) => (∃ b2 : Bool, ((v2 = (VB b2)) ∧ (cond b2
 (N (VT [(VP none), (VI (8 : Int))]) h_2)
 (N (VT [(VP p3), (VI (0 : Int))]) h_2))))))))))))))))))))
 (N (VT [(VP p3), (VI (0 : Int))]) h_1))))
 (N (VT [(VP none), (VI (8 : Int))]) h_1)))))))))))))))))))))))))
 (∃ n29 : Int, (((ld h15 none (addOff (addOff ⟨h1.next, 0, none⟩ 3) 0)) = (some (VI n29))) ∧ (cond (n29 == (7 : Int))
 (∃ n30 : Int, (∃ n31 : Int, (∃ p5 : (Option Addr), (∃ n32 : Nat, (∃ c2 : Nat, (∃ n33 : Int, (∃ n34 : Int, (∃ n35 : Int, (∃ n36 : Int, (∃ n37 : Int, (∃ n38 : Int, (∃ n39 : Int, (((ld h15 (some 10) ⟨h1.next, 0, none⟩) = (some (VA [(VI n30), (VI n31), (VS p5 n32 c2), (VI n33), (VI n34), (VI n35), (VI n36), (VI n37), (VI n38), (VI n39)]))) ∧ (CallP m E (FN 53) [(VP b), (VA [(VI n30), (VI n31), (VS p5 n32 c2), (VI n33), (VI n34), (VI n35), (VI n36), (VI n37), (VI n38), (VI n39)])] h15 (fun (v1 : Value) => (fun (h_1 : H) => (∃ b1 : Bool, ((v1 = (VB b1)) ∧ (cond b1
 (N (VT [(VP none), (VI (8 : Int))]) h_1)
 (N (VT [(VP p3), (VI (0 : Int))]) h_1))))))))))))))))))))
 (N (VT [(VP p3), (VI (0 : Int))]) h15)))))))))))))))
 (∃ n26 : Int, (((ld h15 none (addOff (addOff ⟨h1.next, 0, none⟩ 3) 0)) = (some (VI n26))) ∧ (cond (n26 == (7 : Int))
 (∃ n27 : Int, (((ld h15 none (addOff (addOff ⟨h1.next, 0, none⟩ 3) 0)) = (some (VI n27))) ∧ (cond (n27 == (7 : Int))
 (optP p3 (fun (a4 : Addr) => (∃ n28 : Int, (((ld h15 none (addOff a4 2)) = (some (VI n28))) ∧ (cond (ltI (0 : Int) n28)
 (N (VT [(VP none), (VI (8 : Int))]) h15)
 (∃ n29 : Int, (∃ n30 : Int, (∃ p5 : (Option Addr), (∃ n31 : Nat, (∃ c2 : Nat, (∃ n32 : Int, (∃ n33 : Int, (∃ n34 : Int, (∃ n35 : Int, (∃ n36 : Int, (∃ n37 : Int, (∃ n38 : Int, (((ld h15 (some 10) ⟨h1.next, 0, none⟩) = (some (VA [(VI n29), (VI n30), (VS p5 n31 c2), (VI n32), (VI n33), (VI n34), (VI n35), (VI n36), (VI n37), (VI n38)]))) ∧ (CallP m E (FN 52) [(VP b), (VP p3), (VA [(VI n29), (VI n30), (VS p5 n31 c2), (VI n32), (VI n33), (VI n34), (VI n35), (VI n36), (VI n37), (VI n38)])] h15 (fun (v1 : Value) => (fun (h_1 : H) => (∃ b1 : Bool, ((v1 = (VB b1)) ∧ (cond b1
 (∃ n39 : Int, (((ld h_1 none (addOff (addOff ⟨h1.next, 0, none⟩ 3) 0)) = (some (VI n39))) ∧ (cond (n39 == (7 : Int))
 (∃ n40 : Int, (∃ n41 : Int, (∃ p6 : (Option Addr), (∃ n42 : Nat, (∃ c3 : Nat, (∃ n43 : Int, (∃ n44 : Int, (∃ n45 : Int, (∃ n46 : Int, (∃ n47 : Int, (∃ n48 : Int, (∃ n49 : Int, (((ld h_1 (some 10) ⟨h1.next, 0, none⟩) = (some (VA [(VI n40), (VI n41), (VS p6 n42 c3), (VI n43), (VI n44), (VI n45), (VI n46), (VI n47), (VI n48), (VI n49)]))) ∧ (CallP m E (FN 53) [(VP b), (VA [(VI n40), (VI n41), (VS p6 n42 c3), (VI n43), (VI n44), (VI n45), (VI n46), (VI n47), (VI n48), (VI n49)])] h_1 (fun (v2 : Value) => (fun (h_2 : H) => (∃ b2 : Bool, ((v2 = (VB b2)) ∧ (cond b2
 (N (VT [(VP none), (VI (8 : Int))]) h_2)
 (N (VT [(VP p3), (VI (0 : Int))]) h_2))))))))))))))))))))
 (N (VT [(VP p3), (VI (0 : Int))]) h_1))))
 (N (VT [(VP none), (VI (8 : Int))]) h_1)))))))))))))))))))))))))
 (∃ n28 : Int, (((ld h15 none (addOff (addOff ⟨h1.next, 0, none⟩ 3) 0)) = (some (VI n28))) ∧ (cond (n28 == (7 : Int))
 (∃ n29 : Int, (∃ n30 : Int, (∃ p5 : (Option Addr), (∃ n31 : Nat, (∃ c2 : Nat, (∃ n32 : Int, (∃ n33 : Int, (∃ n34 : Int, (∃ n35 : Int, (∃ n36 : Int, (∃ n37 : Int, (∃ n38 : Int, (((ld h15 (some 10) ⟨h1.next, 0, none⟩) = (some (VA [(VI n29), (VI n30), (VS p5 n31 c2), (VI n32), (VI n33), (VI n34), (VI n35), (VI n36), (VI n37), (VI n38)]))) ∧ (CallP m E (FN 53) [(VP b), (VA [(VI n29), (VI n30), (VS p5 n31 c2), (VI n32), (VI n33), (VI n34), (VI n35), (VI n36), (VI n37), (VI n38)])] h15 (fun (v1 : Value) => (fun (h_1 : H) => (∃ b1 : Bool, ((v1 = (VB b1)) ∧ (cond b1
 (N (VT [(VP none), (VI (8 : Int))]) h_1)
 (N (VT [(VP p3), (VI (0 : Int))]) h_1))))))))))))))))))))
 (N (VT [(VP p3), (VI (0 : Int))]) h15)))))))
 (∃ n27 : Int, (((ld h15 none (addOff (addOff ⟨h1.next, 0, none⟩ 3) 0)) = (some (VI n27))) ∧ (cond (n27 == (7 : Int))
 (optP p3 (fun (a4 : Addr) => (∃ n28 : Int, (((ld h15 none (addOff a4 2)) = (some (VI n28))) ∧ (cond (ltI (0 : Int) n28)
 (N (VT [(VP none), (VI (8 : Int))]) h15)
 (∃ n29 : Int, (∃ n30 : Int, (∃ p5 : (Option Addr), (∃ n31 : Nat, (∃ c2 : Nat, (∃ n32 : Int, (∃ n33 : Int, (∃ n34 : Int, (∃ n35 : Int, (∃ n36 : Int, (∃ n37 : Int, (∃ n38 : Int, (((ld h15 (some 10) ⟨h1.next, 0, none⟩) = (some (VA [(VI n29), (VI n30), (VS p5 n31 c2), (VI n32), (VI n33), (VI n34), (VI n35), (VI n36), (VI n37), (VI n38)]))) ∧ (CallP m E (FN 52) [(VP b), (VP p3), (VA [(VI n29), (VI n30), (VS p5 n31 c2), (VI n32), (VI n33), (VI n34), (VI n35), (VI n36), (VI n37), (VI n38)])] h15 (fun (v1 : Value) => (fun (h_1 : H) => (∃ b1 : Bool, ((v1 = (VB b1)) ∧ (cond b1
 (∃ n39 : Int, (((ld h_1 none (addOff (addOff ⟨h1.next, 0, none⟩ 3) 0)) = (some (VI n39))) ∧ (cond (n39 == (7 : Int))
 (∃ n40 : Int, (∃ n41 : Int, (∃ p6 : (Option Addr), (∃ n42 : Nat, (∃ c3 : Nat, (∃ n43 : Int, (∃ n44 : Int, (∃ n45 : Int, (∃ n46 : Int, (∃ n47 : Int, (∃ n48 : Int, (∃ n49 : Int, (((ld h_1 (some 10) ⟨h1.next, 0, none⟩) = (some (VA [(VI n40), (VI n41), (VS p6 n42 c3), (VI n43), (VI n44), (VI n45), (VI n46), (VI n47), (VI n48), (VI n49)]))) ∧ (CallP m E (FN 53) [(VP b), (VA [(VI n40), (VI n41), (VS p6 n42 c3), (VI n43), (VI n44), (VI n45), (VI n46), (VI n47), (VI n48), (VI n49)])] h_1 (fun (v2 : Value) => (fun (h_2 : H) => (∃ b2 : Bool, ((v2 = (VB b2)) ∧ (cond b2
 (N (VT [(VP none), (VI (8 : Int))]) h_2)
 (N (VT [(VP p3), (VI (0 : Int))]) h_2))))))))))))))))))))
 (N (VT [(VP p3), (VI (0 : Int))]) h_1))))
 (N (VT [(VP none), (VI (8 : Int))]) h_1)))))))))))))))))))))))))
 (∃ n28 : Int, (((ld h15 none (addOff (addOff ⟨h1.next, 0, none⟩ 3) 0)) = (some (VI n28))) ∧ (cond (n28 == (7 : Int))
 (∃ n29 : Int, (∃ n30 : Int, (∃ p5 : (Option Addr), (∃ n31 : Nat, (∃ c2 : Nat, (∃ n32 : Int, (∃ n33 : Int, (∃ n34 : Int, (∃ n35 : Int, (∃ n36 : Int, (∃ n37 : Int, (∃ n38 : Int, (((ld h15 (some 10) ⟨h1.next, 0, none⟩) = (some (VA [(VI n29), (VI n30), (VS p5 n31 c2), (VI n32), (VI n33), (VI n34), (VI n35), (VI n36), (VI n37), (VI n38)]))) ∧ (CallP m E (FN 53) [(VP b), (VA [(VI n29), (VI n30), (VS p5 n31 c2), (VI n32), (VI n33), (VI n34), (VI n35), (VI n36), (VI n37), (VI n38)])] h15 (fun (v1 : Value) => (fun (h_1 : H) => (∃ b1 : Bool, ((v1 = (VB b1)) ∧ (cond b1
 (N (VT [(VP none), (VI (8 : Int))]) h_1)
 (N (VT [(VP p3), (VI (0 : Int))]) h_1))))))))))))))))))))
 (N (VT [(VP p3), (VI (0 : Int))]) h15)))))))))))))))))))))))))
 (optP p3 (fun (a3 : Addr) => (∃ p4 : (Option Nat), (((ld h15 none (addOff a3 1)) = (some (Value.map p4))) ∧ (∃ n22 : Int, (((ld h15 none (addOff ⟨h1.next, 0, none⟩ 0)) = (some (VI n22))) ∧ (∃ n23 : Int, (((readV h15 (AOp.lookup (EK.leaf LK.int) (VI (0 : Int)) Bool.false (Operand.const (Value.map p4)) (Operand.const (VI n22)))) = (some (VI n23))) ∧ (cond (ltI (0 : Int) n23)
 (∃ n24 : Int, (((ld h15 none (addOff (addOff ⟨h1.next, 0, none⟩ 3) 0)) = (some (VI n24))) ∧ (cond (n24 == (8 : Int))
 (N (VT [(VP none), (VI (8 : Int))]) h15)
 (∃ n25 : Int, (((ld h15 none (addOff (addOff ⟨h1.next, 0, none⟩ 3) 0)) = (some (VI n25))) ∧ (cond (n25 == (8 : Int))
 (optP p3 (fun (a4 : Addr) => (∃ n26 : Int, (((ld h15 none (addOff a4 2)) = (some (VI n26))) ∧ (cond (ltI (0 : Int) n26)
 (N (VT [(VP none), (VI (7 : Int))]) h15)
 (∃ n27 : Int, (((ld h15 none (addOff (addOff ⟨h1.next, 0, none⟩ 3) 0)) = (some (VI n27))) ∧ (cond (n27 == (7 : Int))
 (N (VT [(VP none), (VI (7 : Int))]) h15)
 (∃ n28 : Int, (((ld h15 none (addOff (addOff ⟨h1.next, 0, none⟩ 3) 0)) = (some (VI n28))) ∧ (cond (n28 == (7 : Int))
 (∃ n29 : Int, (((ld h15 none (addOff (addOff ⟨h1.next, 0, none⟩ 3) 0)) = (some (VI n29))) ∧ (cond (n29 == (7 : Int))
 (∃ n30 : Int, (∃ n31 : Int, (∃ p5 : (Option Addr), (∃ n32 : Nat, (∃ c2 : Nat, (∃ n33 : Int, (∃ n34 : Int, (∃ n35 : Int, (∃ n36 : Int, (∃ n37 : Int, (∃ n38 : Int, (∃ n39 : Int, (((ld h15 (some 10) ⟨h1.next, 0, none⟩) = (some (VA [(VI n30), (VI n31), (VS p5 n32 c2), (VI n33), (VI n34), (VI n35), (VI n36), (VI n37), (VI n38), (VI n39)]))) ∧ (CallP m E (FN 53) [(VP b), (VA [(VI n30), (VI n31), (VS p5 n32 c2), (VI n33), (VI n34), (VI n35), (VI n36), (VI n37), (VI n38), (VI n39)])] h15 (fun (v1 : Value) => (fun (h_1 : H) => (∃ b1 : Bool, ((v1 = (VB b1)) ∧ (cond b1
 (N (VT [(VP none), (VI (8 : Int))]) h_1)
 (N (VT [(VP p3), (VI (0 : Int))]) h_1))))))))))))))))))))
 (N (VT [(VP p3), (VI (0 : Int))]) h15))))
 (∃ n29 : Int, (((ld h15 none (addOff (addOff ⟨h1.next, 0, none⟩ 3) 0)) = (some (VI n29))) ∧ (cond (n29 == (7 : Int))
 (∃ n30 : Int, (∃ n31 : Int, (∃ p5 : (Option Addr), (∃ n32 : Nat, (∃ c2 : Nat, (∃ n33 : Int, (∃ n34 : Int, (∃ n35 : Int, (∃ n36 : Int, (∃ n37 : Int, (∃ n38 : Int, (∃ n39 : Int, (((ld h15 (some 10) ⟨h1.next, 0, none⟩) = (some (VA [(VI n30), (VI n31), (VS p5 n32 c2), (VI n33), (VI n34), (VI n35), (VI n36), (VI n37), (VI n38), (VI n39)]))) ∧ (CallP m E (FN 53) [(VP b), (VA [(VI n30), (VI n31), (VS p5 n32 c2), (VI n33), (VI n34), (VI n35), (VI n36), (VI n37), (VI n38), (VI n39)])] h15 (fun (v1 : Value) => (fun (h_1 : H) => (∃ b1 : Bool, ((v1 = (VB b1)) ∧ (cond b1
 (N (VT [(VP none), (VI (8 : Int))]) h_1)
 (N (VT [(VP p3), (VI (0 : Int))]) h_1))))))))))))))))))))
 (N (VT [(VP p3), (VI (0 : Int))]) h15)))))))))))))))
 (∃ n26 : Int, (((ld h15 none (addOff (addOff ⟨h1.next, 0, none⟩ 3) 0)) = (some (VI n26))) ∧ (cond (n26 == (7 : Int))
 (N (VT [(VP none), (VI (7 : Int))]) h15)
 (∃ n27 : Int, (((ld h15 none (addOff (addOff ⟨h1.next, 0, none⟩ 3) 0)) = (some (VI n27))) ∧ (cond (n27 == (7 : Int))
 (∃ n28 : Int, (((ld h15 none (addOff (addOff ⟨h1.next, 0, none⟩ 3) 0)) = (some (VI n28))) ∧ (cond (n28 == (7 : Int))
 (∃ n29 : Int, (∃ n30 : Int, (∃ p5 : (Option Addr), (∃ n31 : Nat, (∃ c2 : Nat, (∃ n32 : Int, (∃ n33 : Int, (∃ n34 : Int, (∃ n35 : Int, (∃ n36 : Int, (∃ n37 : Int, (∃ n38 : Int, (((ld h15 (some 10) ⟨h1.next, 0, none⟩) = (some (VA [(VI n29), (VI n30), (VS p5 n31 c2), (VI n32), (VI n33), (VI n34), (VI n35), (VI n36), (VI n37), (VI n38)]))) ∧ (CallP m E (FN 53) [(VP b), (VA [(VI n29), (VI n30), (VS p5 n31 c2), (VI n32), (VI n33), (VI n34), (VI n35), (VI n36), (VI n37), (VI n38)])] h15 (fun (v1 : Value) => (fun (h_1 : H) => (∃ b1 : Bool, ((v1 = (VB b1)) ∧ (cond b1
 (N (VT [(VP none), (VI (8 : Int))]) h_1)
 (N (VT [(VP p3), (VI (0 : Int))]) h_1))))))))))))))))))))
 (N (VT [(VP p3), (VI (0 : Int))]) h15))))
 (∃ n28 : Int, (((ld h15 none (addOff (addOff ⟨h1.next, 0, none⟩ 3) 0)) = (some (VI n28))) ∧ (cond (n28 == (7 : Int))
 (∃ n29 : Int, (∃ n30 : Int, (∃ p5 : (Option Addr), (∃ n31 : Nat, (∃ c2 : Nat, (∃ n32 : Int, (∃ n33 : Int, (∃ n34 : Int, (∃ n35 : Int, (∃ n36 : Int, (∃ n37 : Int, (∃ n38 : Int, (((ld h15 (some 10) ⟨h1.next, 0, none⟩) = (some (VA [(VI n29), (VI n30), (VS p5 n31 c2), (VI n32), (VI n33), (VI n34), (VI n35), (VI n36), (VI n37), (VI n38)]))) ∧ (CallP m E (FN 53) [(VP b), (VA [(VI n29), (VI n30), (VS p5 n31 c2), (VI n32), (VI n33), (VI n34), (VI n35), (VI n36), (VI n37), (VI n38)])] h15 (fun (v1 : Value) => (fun (h_1 : H) => (∃ b1 : Bool, ((v1 = (VB b1)) ∧ (cond b1
 (N (VT [(VP none), (VI (8 : Int))]) h_1)
 (N (VT [(VP p3), (VI (0 : Int))]) h_1))))))))))))))))))))
 (N (VT [(VP p3), (VI (0 : Int))]) h15))))))))))))))))
 (∃ n24 : Int, (((ld h15 none (addOff (addOff ⟨h1.next, 0, none⟩ 3) 0)) = (some (VI n24))) ∧ (cond (n24 == (8 : Int))
 (N (VT [(VP none), (VI (8 : Int))]) h15)
 (∃ n25 : Int, (((ld h15 none (addOff (addOff ⟨h1.next, 0, none⟩ 3) 0)) = (some (VI n25))) ∧ (cond (n25 == (8 : Int))
 (optP p3 (fun (a4 : Addr) => (∃ n26 : Int, (((ld h15 none (addOff a4 2)) = (some (VI n26))) ∧ (cond (ltI (0 : Int) n26)
 (N (VT [(VP none), (VI (7 : Int))]) h15)
 (∃ n27 : Int, (((ld h15 none (addOff (addOff ⟨h1.next, 0, none⟩ 3) 0)) = (some (VI n27))) ∧ (cond (n27 == (7 : Int))
 (∃ n28 : Int, (((ld h15 none (addOff (addOff ⟨h1.next, 0, none⟩ 3) 0)) = (some (VI n28))) ∧ (cond (n28 == (7 : Int))
 (∃ n29 : Int, (((ld h15 none (addOff (addOff ⟨h1.next, 0, none⟩ 3) 0)) = (some (VI n29))) ∧ (cond (n29 == (7 : Int))
 (∃ n30 : Int, (∃ n31 : Int, (∃ p5 : (Option Addr), (∃ n32 : Nat, (∃ c2 : Nat, (∃ n33 : Int, (∃ n34 : Int, (∃ n35 : Int, (∃ n36 : Int, (∃ n37 : Int, (∃ n38 : Int, (∃ n39 : Int, (((ld h15 (some 10) ⟨h1.next, 0, none⟩) = (some (VA [(VI n30), (VI n31), (VS p5 n32 c2), (VI n33), (VI n34), (VI n35), (VI n36), (VI n37), (VI n38), (VI n39)]))) ∧ (CallP m E (FN 53) [(VP b), (VA [(VI n30), (VI n31), (VS p5 n32 c2), (VI n33), (VI n34), (VI n35), (VI n36), (VI n37), (VI n38), (VI n39)])] h15 (fun (v1 : Value) => (fun (h_1 : H) => (∃ b1 : Bool, ((v1 = (VB b1)) ∧ (cond b1
 (N (VT [(VP none), (VI (8 : Int))]) h_1)
 (N (VT [(VP p3), (VI (0 : Int))]) h_1))))))))))))))))))))
 (N (VT [(VP p3), (VI (0 : Int))]) h15))))
 (∃ n29 : Int, (((ld h15 none (addOff (addOff ⟨h1.next, 0, none⟩ 3) 0)) = (some (VI n29))) ∧ (cond (n29 == (7 : Int))
 (∃ n30 : Int, (∃ n31 : Int, (∃ p5 : (Option Addr), (∃ n32 : Nat, (∃ c2 : Nat, (∃ n33 : Int, (∃ n34 : Int, (∃ n35 : Int, (∃ n36 : Int, (∃ n37 : Int, (∃ n38 : Int, (∃ n39 : Int, (((ld h15 (some 10) ⟨h1.next, 0, none⟩) = (some (VA [(VI n30), (VI n31), (VS p5 n32 c2), (VI n33), (VI n34), (VI n35), (VI n36), (VI n37), (VI n38), (VI n39)]))) ∧ (CallP m E (FN 53) [(VP b), (VA [(VI n30), (VI n31), (VS p5 n32 c2), (VI n33), (VI n34), (VI n35), (VI n36), (VI n37), (VI n38), (VI n39)])] h15 (fun (v1 : Value) => (fun (h_1 : H) => (∃ b1 : Bool, ((v1 = (VB b1)) ∧ (cond b1
 (N (VT [(VP none), (VI (8 : Int))]) h_1)
 (N (VT [(VP p3), (VI (0 : Int))]) h_1))))))))))))))))))))
 (N (VT [(VP p3), (VI (0 : Int))]) h15)))))))
 (∃ n28 : Int, (((ld h15 none (addOff (addOff ⟨h1.next, 0, none⟩ 3) 0)) = (some (VI n28))) ∧ (cond (n28 == (7 : Int))
 (∃ n29 : Int, (((ld h15 none (addOff (addOff ⟨h1.next, 0, none⟩ 3) 0)) = (some (VI n29))) ∧ (cond (n29 == (7 : Int))
 (∃ n30 : Int, (∃ n31 : Int, (∃ p5 : (Option Addr), (∃ n32 : Nat, (∃ c2 : Nat, (∃ n33 : Int, (∃ n34 : Int, (∃ n35 : Int, (∃ n36 : Int, (∃ n37 : Int, (∃ n38 : Int, (∃ n39 : Int, (((ld h15 (some 10) ⟨h1.next, 0, none⟩) = (some (VA [(VI n30), (VI n31), (VS p5 n32 c2), (VI n33), (VI n34), (VI n35), (VI n36), (VI n37), (VI n38), (VI n39)]))) ∧ (CallP m E (FN 53) [(VP b), (VA [(VI n30), (VI n31), (VS p5 n32 c2), (VI n33), (VI n34), (VI n35), (VI n36), (VI n37), (VI n38), (VI n39)])] h15 (fun (v1 : Value) => (fun (h_1 : H) => (∃ b1 : Bool, ((v1 = (VB b1)) ∧ (cond b1
 (N (VT [(VP none), (VI (8 : Int))]) h_1)
 (N (VT [(VP p3), (VI (0 : Int))]) h_1))))))))))))))))))))
 (N (VT [(VP p3), (VI (0 : Int))]) h15))))
 (∃ n29 : Int, (((ld h15 none (addOff (addOff ⟨h1.next, 0, none⟩ 3) 0)) = (some (VI n29))) ∧ (cond (n29 == (7 : Int))
 (∃ n30 : Int, (∃ n31 : Int, (∃ p5 : (Option Addr), (∃ n32 : Nat, (∃ c2 : Nat, (∃ n33 : Int, (∃ n34 : Int, (∃ n35 : Int, (∃ n36 : Int, (∃ n37 : Int, (∃ n38 : Int, (∃ n39 : Int, (((ld h15 (some 10) ⟨h1.next, 0, none⟩) = (some (VA [(VI n30), (VI n31), (VS p5 n32 c2), (VI n33), (VI n34), (VI n35), (VI n36), (VI n37), (VI n38), (VI n39)]))) ∧ (CallP m E (FN 53) [(VP b), (VA [(VI n30), (VI n31), (VS p5 n32 c2), (VI n33), (VI n34), (VI n35), (VI n36), (VI n37), (VI n38), (VI n39)])] h15 (fun (v1 : Value) => (fun (h_1 : H) => (∃ b1 : Bool, ((v1 = (VB b1)) ∧ (cond b1
 (N (VT [(VP none), (VI (8 : Int))]) h_1)
 (N (VT [(VP p3), (VI (0 : Int))]) h_1))))))))))))))))))))
 (N (VT [(VP p3), (VI (0 : Int))]) h15)))))))))))))))
 (∃ n26 : Int, (((ld h15 none (addOff (addOff ⟨h1.next, 0, none⟩ 3) 0)) = (some (VI n26))) ∧ (cond (n26 == (7 : Int))
 (∃ n27 : Int, (((ld h15 none (addOff (addOff ⟨h1.next, 0, none⟩ 3) 0)) = (some (VI n27))) ∧ (cond (n27 == (7 : Int))
 (∃ n28 : Int, (((ld h15 none (addOff (addOff ⟨h1.next, 0, none⟩ 3) 0)) = (some (VI n28))) ∧ (cond (n28 == (7 : Int))
 (∃ n29 : Int, (∃ n30 : Int, (∃ p5 : (Option Addr), (∃ n31 : Nat, (∃ c2 : Nat, (∃ n32 : Int, (∃ n33 : Int, (∃ n34 : Int, (∃ n35 : Int, (∃ n36 : Int, (∃ n37 : Int, (∃ n38 : Int, (((ld h15 (some 10) ⟨h1.next, 0, none⟩) = (some (VA [(VI n29), (VI n30), (VS p5 n31 c2), (VI n32), (VI n33), (VI n34), (VI n35), (VI n36), (VI n37), (VI n38)]))) ∧ (CallP m E (FN 53) [(VP b), (VA [(VI n29), (VI n30), (VS p5 n31 c2), (VI n32), (VI n33), (VI n34), (VI n35), (VI n36), (VI n37), (VI n38)])] h15 (fun (v1 : Value) => (fun (h_1 : H) => (∃ b1 : Bool, ((v1 = (VB b1)) ∧ (cond b1
 (N (VT [(VP none), (VI (8 : Int))]) h_1)
 (N (VT [(VP p3), (VI (0 : Int))]) h_1))))))))))))))))))))
 (N (VT [(VP p3), (VI (0 : Int))]) h15))))
 (∃ n28 : Int, (((ld h15 none (addOff (addOff ⟨h1.next, 0, none⟩ 3) 0)) = (some (VI n28))) ∧ (cond (n28 == (7 : Int))
 (∃ n29 : Int, (∃ n30 : Int, (∃ p5 : (Option Addr), (∃ n31 : Nat, (∃ c2 : Nat, (∃ n32 : Int, (∃ n33 : Int, (∃ n34 : Int, (∃ n35 : Int, (∃ n36 : Int, (∃ n37 : Int, (∃ n38 : Int, (((ld h15 (some 10) ⟨h1.next, 0, none⟩) = (some (VA [(VI n29), (VI n30), (VS p5 n31 c2), (VI n32), (VI n33), (VI n34), (VI n35), (VI n36), (VI n37), (VI n38)]))) ∧ (CallP m E (FN 53) [(VP b), (VA [(VI n29), (VI n30), (VS p5 n31 c2), (VI n32), (VI n33), (VI n34), (VI n35), (VI n36), (VI n37), (VI n38)])] h15 (fun (v1 : Value) => (fun (h_1 : H) => (∃ b1 : Bool, ((v1 = (VB b1)) ∧ (cond b1
 (N (VT [(VP none), (VI (8 : Int))]) h_1)
 (N (VT [(VP p3), (VI (0 : Int))]) h_1))))))))))))))))))))
 (N (VT [(VP p3), (VI (0 : Int))]) h15)))))))
 (∃ n27 : Int, (((ld h15 none (addOff (addOff ⟨h1.next, 0, none⟩ 3) 0)) = (some (VI n27))) ∧ (cond (n27 == (7 : Int))
 (∃ n28 : Int, (((ld h15 none (addOff (addOff ⟨h1.next, 0, none⟩ 3) 0)) = (some (VI n28))) ∧ (cond (n28 == (7 : Int))
 (∃ n29 : Int, (∃ n30 : Int, (∃ p5 : (Option Addr), (∃ n31 : Nat, (∃ c2 : Nat, (∃ n32 : Int, (∃ n33 : Int, (∃ n34 : Int, (∃ n35 : Int, (∃ n36 : Int, (∃ n37 : Int, (∃ n38 : Int, (((ld h15 (some 10) ⟨h1.next, 0, none⟩) = (some (VA [(VI n29), (VI n30), (VS p5 n31 c2), (VI n32), (VI n33), (VI n34), (VI n35), (VI n36), (VI n37), (VI n38)]))) ∧ (CallP m E (FN 53) [(VP b), (VA [(VI n29), (VI n30), (VS p5 n31 c2), (VI n32), (VI n33), (VI n34), (VI n35), (VI n36), (VI n37), (VI n38)])] h15 (fun (v1 : Value) => (fun (h_1 : H) => (∃ b1 : Bool, ((v1 = (VB b1)) ∧ (cond b1
 (N (VT [(VP none), (VI (8 : Int))]) h_1)
 (N (VT [(VP p3), (VI (0 : Int))]) h_1))))))))))))))))))))
 (N (VT [(VP p3), (VI (0 : Int))]) h15))))
 (∃ n28 : Int, (((ld h15 none (addOff (addOff ⟨h1.next, 0, none⟩ 3) 0)) = (some (VI n28))) ∧ (cond (n28 == (7 : Int))
 (∃ n29 : Int, (∃ n30 : Int, (∃ p5 : (Option Addr), (∃ n31 : Nat, (∃ c2 : Nat, (∃ n32 : Int, (∃ n33 : Int, (∃ n34 : Int, (∃ n35 : Int, (∃ n36 : Int, (∃ n37 : Int, (∃ n38 : Int, (((ld h15 (some 10) ⟨h1.next, 0, none⟩) = (some (VA [(VI n29), (VI n30), (VS p5 n31 c2), (VI n32), (VI n33), (VI n34), (VI n35), (VI n36), (VI n37), (VI n38)]))) ∧ (CallP m E (FN 53) [(VP b), (VA [(VI n29), (VI n30), (VS p5 n31 c2), (VI n32), (VI n33), (VI n34), (VI n35), (VI n36), (VI n37), (VI n38)])] h15 (fun (v1 : Value) => (fun (h_1 : H) => (∃ b1 : Bool, ((v1 = (VB b1)) ∧ (cond b1
 (N (VT [(VP none), (VI (8 : Int))]) h_1)
 (N (VT [(VP p3), (VI (0 : Int))]) h_1))))))))))))))))))))
 (N (VT [(VP p3), (VI (0 : Int))]) h15)))))))))))))))))))))))))))))))))))))))))))))))))))))))))))))))))))))))))))))))))))))))))))))))))
theorem w28 (m : Bool) (E : Env) (b : (Option Addr)) (m00 : Int) (m01 : Int) (m02 : (Option Addr)) (m02n : Nat) (m02c : Nat) (m03 : Int) (m04 : Int) (m05 : Int) (m06 : Int) (m07 : Int) (m08 : Int) (m09 : Int) (h : H) (N : Value → H → Prop) : wpF m E (kz vk28) (az ann28) a28 [(VP b), (VA [(VI m00), (VI m01), (VS m02 m02n m02c), (VI m03), (VI m04), (VI m05), (VI m06), (VI m07), (VI m08), (VI m09)])] h N = sh28 m E b m00 m01 m02 m02n m02c m03 m04 m05 m06 m07 m08 m09 h N := by kernel_rfl
/-! (*duet/submit.Barrier).ids -/
def sh35 (m : Bool) (E : Env) (b : (Option Addr)) (h : H) (N : Value → H → Prop) : Prop :=
 (∀ h1 : H, ((h1 = (H.enter h)) → (cond (b).isNone
 (N (VS none 0 0) h1)
 (optP b (fun (a : Addr) => (∃ p : (Option Nat), (((ld h1 none (addOff a 2)) = (some (Value.map p))) ∧ (CallP m E (FN 58) [(Value.map p)] h1 (fun (v : Value) => (fun (h_ : H) => (∃ f : Fn, (∃ a1 : (Array Value), (∃ c : (Array Value), ((v = (Value.func f a1 c)) ∧ (CallP m E (FN 57) [(Value.func f a1 c)] h_ (fun (v1 : Value) => (fun (h_1 : H) => (∃ p1 : (Option Addr), (∃ n : Nat, (∃ c1 : Nat, ((v1 = (VS p1 n c1)) ∧ (CallP m E (FN 56) [(VS p1 n c1)] h_1 (fun (v2 : Value) => (fun (h_2 : H) => (∃ p2 : (Option Addr), (∃ n1 : Nat, (∃ c2 : Nat, ((v2 = (VS p2 n1 c2)) ∧ (N (VS p2 n1 c2) h_2)))))))))))))))))))))))))))))
theorem w35 (m : Bool) (E : Env) (b : (Option Addr)) (h : H) (N : Value → H → Prop) : wpF m E (kz vk35) (az ann35) a35 [(VP b)] h N = sh35 m E b h N := by kernel_rfl
/-! slices.DeleteFunc[[]duet/api.Id,duet/api.Id] -/
def sh37 (m : Bool) (E : Env) (s : (Option Addr)) (sn : Nat) (sc : Nat) (del : Fn) (dela : (Array Value)) (delc : (Array Value)) (h : H) (N : Value → H → Prop) : Prop :=
 (∀ h1 : H, ((h1 = (H.enter h)) → (CallP m E (FN 59) [(VS s sn sc), (Value.func del dela delc)] h1 (fun (v : Value) => (fun (h_ : H) => (∃ n : Int, ((v = (VI n)) ∧ (cond (n == (- (1 : Int)))
 (N (VS s sn sc) h_)
 (LoopV m E (loopAt a37 0) (lann ann37 0) [(VS s sn sc), (Value.func del dela delc), (VI n), (VI (IntKind.wrap IntKind.i64 (n + (1 : Int))))] [] none h_ (fun (x : AX) => (fun (vs : (List Value)) => (fun (h2 : H) => (∀ _ : Tm, ((x = (AX.ext 0)) ∧ (∃ p : (Option Addr), (∃ n1 : Nat, (∃ c : Nat, (∃ n2 : Int, ((vs = [(VS p n1 c), (VI n2)]) ∧ (∃ p1 : (Option Addr), (∃ n3 : Nat, (∃ c1 : Nat, (((pureV (AOp.slc (SlK.sl 2) (Operand.const (VS p n1 c)) (some (Operand.const (VI n2))) none none)) = (some (VS p1 n3 c1))) ∧ (Res m (actV h2 (AOp.clearSl [(VI (0 : Int)), (VI (0 : Int))] (Operand.const (VS p1 n3 c1)))) (fun (r : (Prod Value H)) => (∃ v1 : Value, (((r).fst = v1) ∧ (∃ p2 : (Option Addr), (∃ n4 : Nat, (∃ c2 : Nat, (((pureV (AOp.slc (SlK.sl 2) (Operand.const (VS p n1 c)) none (some (Operand.const (VI n2))) none)) = (some (VS p2 n4 c2))) ∧ (N (VS p2 n4 c2) (r).snd))))))))))))))))))))))))))))))))
theorem w37 (m : Bool) (E : Env) (s : (Option Addr)) (sn : Nat) (sc : Nat) (del : Fn) (dela : (Array Value)) (delc : (Array Value)) (h : H) (N : Value → H → Prop) : wpF m E (kz vk37) (az ann37) a37 [(VS s sn sc), (Value.func del dela delc)] h N = sh37 m E s sn sc del dela delc h N := by kernel_rfl
def shL37_0 (m : Bool) (E : Env) (ds : List Nat) (rnd : Option Nat) (s : (Option Addr)) (sn : Nat) (sc : Nat) (del : Fn) (dela : (Array Value)) (delc : (Array Value)) (i : Int) (j : Int) (h : H) (Q : AX → List Value → H → Prop) : Prop :=
 (cond (ltI j (Int.ofNat sn))
 (optP s (fun (a : Addr) => ((((0 : Int) ≤ j) ∧ (j < (Int.ofNat sn))) ∧ (∃ n : Int, (∃ n1 : Int, (((ld h (some 2) ⟨(Addr.block a), ((Addr.off a) + ((Int.toNat j) * 2)), none⟩) = (some (VA [(VI n), (VI n1)]))) ∧ (∀ h1 : H, ((h1 = (H.new h (AObj.row [(VI (0 : Int)), (VI (0 : Int))] Bool.false Bool.false))) → (∃ h_ : H, (((H.write h1 ⟨h.next, 0, none⟩ [(VI n), (VI n1)]) = (some h_)) ∧ (∃ n2 : Int, (∃ n3 : Int, (((ld h_ (some 2) ⟨h.next, 0, none⟩) = (some (VA [(VI n2), (VI n3)]))) ∧ (CallP m E (Value.func del dela delc) [(VA [(VI n2), (VI n3)])] h_ (fun (v : Value) => (fun (h_1 : H) => (∃ b : Bool, ((v = (VB b)) ∧ (cond b
 ((ds = ds) ∧ ((rnd = rnd) ∧ (Q AX.nrm [(VS s sn sc), (Value.func del dela delc), (VI i), (VI (IntKind.wrap IntKind.i64 (j + (1 : Int))))] h_1)))
 (∃ n4 : Int, (∃ n5 : Int, (((ld h_1 (some 2) ⟨h.next, 0, none⟩) = (some (VA [(VI n4), (VI n5)]))) ∧ (optP s (fun (a1 : Addr) => ((((0 : Int) ≤ i) ∧ (i < (Int.ofNat sn))) ∧ (∃ h_2 : H, (((H.write h_1 ⟨(Addr.block a1), ((Addr.off a1) + ((Int.toNat i) * 2)), none⟩ [(VI n4), (VI n5)]) = (some h_2)) ∧ ((ds = ds) ∧ ((rnd = rnd) ∧ (Q AX.nrm [(VS s sn sc), (Value.func del dela delc), (VI (IntKind.wrap IntKind.i64 (i + (1 : Int)))), (VI (IntKind.wrap IntKind.i64 (j + (1 : Int))))] h_2))))))))))))))))))))))))))))))
 ((ds = ds) ∧ ((rnd = rnd) ∧ (Q (AX.ext 0) [(VS s sn sc), (VI i)] h))))
theorem wL37_0 (m : Bool) (E : Env) (tm : Tm) (ds : List Nat) (rnd : Option Nat) (s : (Option Addr)) (sn : Nat) (sc : Nat) (del : Fn) (dela : (Array Value)) (delc : (Array Value)) (i : Int) (j : Int) (h : H) (Q : AX → List Value → H → Prop) : wpBody m E (kz vk37) (az ann37) 0 (loopAt a37 0) (lann ann37 0) [(VS s sn sc), (Value.func del dela delc), (VI i), (VI j)] tm ds rnd h Q = shL37_0 m E ds rnd s sn sc del dela delc i j h Q := by kernel_rfl
/-! slices.IndexFunc[[]duet/api.Id,duet/api.Id] -/
def sh59 (m : Bool) (E : Env) (s : (Option Addr)) (sn : Nat) (sc : Nat) (f : Fn) (fa : (Array Value)) (fc : (Array Value)) (h : H) (N : Value → H → Prop) : Prop :=
 (∀ h1 : H, ((h1 = (H.enter h)) → (LoopV m E (loopAt a59 0) (lann ann59 0) [(VS s sn sc), (Value.func f fa fc), (VI (Int.ofNat sn)), (VI (0 : Int))] [] none h1 (fun (x : AX) => (fun (vs : (List Value)) => (fun (h2 : H) => (∀ _ : Tm, (((x = (AX.ext 0)) ∧ ((vs = []) ∧ (N (VI (- (1 : Int))) h2))) ∨ ((x = AX.ret) ∧ (∃ n : Int, ((vs = [(VI n)]) ∧ (N (VI n) h2))))))))))))
theorem w59 (m : Bool) (E : Env) (s : (Option Addr)) (sn : Nat) (sc : Nat) (f : Fn) (fa : (Array Value)) (fc : (Array Value)) (h : H) (N : Value → H → Prop) : wpF m E (kz vk59) (az ann59) a59 [(VS s sn sc), (Value.func f fa fc)] h N = sh59 m E s sn sc f fa fc h N := by kernel_rfl
def shL59_0 (m : Bool) (E : Env) (ds : List Nat) (rnd : Option Nat) (s : (Option Addr)) (sn : Nat) (sc : Nat) (f : Fn) (fa : (Array Value)) (fc : (Array Value)) (t7 : Int) (t8 : Int) (h : H) (Q : AX → List Value → H → Prop) : Prop :=
 (cond (ltI t8 t7)
 (optP s (fun (a : Addr) => ((((0 : Int) ≤ t8) ∧ (t8 < (Int.ofNat sn))) ∧ (∃ n : Int, (∃ n1 : Int, (((ld h (some 2) ⟨(Addr.block a), ((Addr.off a) + ((Int.toNat t8) * 2)), none⟩) = (some (VA [(VI n), (VI n1)]))) ∧ (CallP m E (Value.func f fa fc) [(VA [(VI n), (VI n1)])] h (fun (v : Value) => (fun (h_ : H) => (∃ b : Bool, ((v = (VB b)) ∧ (cond b
 ((ds = ds) ∧ ((rnd = rnd) ∧ (Q AX.ret [(VI t8)] h_)))
 ((ds = ds) ∧ ((rnd = rnd) ∧ (Q AX.nrm [(VS s sn sc), (Value.func f fa fc), (VI t7), (VI (IntKind.wrap IntKind.i64 (t8 + (1 : Int))))] h_)))))))))))))))
 ((ds = ds) ∧ ((rnd = rnd) ∧ (Q (AX.ext 0) [] h))))
theorem wL59_0 (m : Bool) (E : Env) (tm : Tm) (ds : List Nat) (rnd : Option Nat) (s : (Option Addr)) (sn : Nat) (sc : Nat) (f : Fn) (fa : (Array Value)) (fc : (Array Value)) (t7 : Int) (t8 : Int) (h : H) (Q : AX → List Value → H → Prop) : wpBody m E (kz vk59) (az ann59) 0 (loopAt a59 0) (lann ann59 0) [(VS s sn sc), (Value.func f fa fc), (VI t7), (VI t8)] tm ds rnd h Q = shL59_0 m E ds rnd s sn sc f fa fc t7 t8 h Q := by kernel_rfl
/-- What is known of the functions. -/
structure Has (E : Env) : Prop where
  f4 : E.fn 4 = some a4
  s4 : E.sum 4 = none
  f10 : E.fn 10 = some a10
  s10 : E.sum 10 = none
  f12 : E.fn 12 = some a12
  s12 : E.sum 12 = none
  f14 : E.fn 14 = some a14
  s14 : E.sum 14 = none
  f16 : E.fn 16 = some a16
  s16 : E.sum 16 = none
  f20 : E.fn 20 = some a20
  s20 : E.sum 20 = none
  f22 : E.fn 22 = some a22
  s22 : E.sum 22 = none
  f28 : E.fn 28 = some a28
  s28 : E.sum 28 = none
  f35 : E.fn 35 = some a35
  s35 : E.sum 35 = none
  f37 : E.fn 37 = some a37
  s37 : E.sum 37 = none
  f59 : E.fn 59 = some a59
  s59 : E.sum 59 = none
theorem hasE1 : Has E1 where
  f4 := E1_fn Try.func4 c4
  s4 := rfl
  f10 := E1_fn Try.func10 c10
  s10 := rfl
  f12 := E1_fn Try.func12 c12
  s12 := rfl
  f14 := E1_fn Try.func14 c14
  s14 := rfl
  f16 := E1_fn Try.func16 c16
  s16 := rfl
  f20 := E1_fn Try.func20 c20
  s20 := rfl
  f22 := E1_fn Try.func22 c22
  s22 := rfl
  f28 := E1_fn Try.func28 c28
  s28 := rfl
  f35 := E1_fn Try.func35 c35
  s35 := rfl
  f37 := E1_fn Try.func37 c37
  s37 := rfl
  f59 := E1_fn Try.func59 c59
  s59 := rfl
end Go.Proofs.Ytiopfolmngmkjaa
