/- The plain statement of FcsSteps over the printed functions stands in the text that is imported. -/
import Derived.Test.YtejpdpjklncfnaaFcsLaws
