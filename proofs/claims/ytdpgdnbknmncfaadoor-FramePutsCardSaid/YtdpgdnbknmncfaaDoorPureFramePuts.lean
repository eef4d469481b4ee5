/- The plain statement of FramePuts over the printed functions stands in the text that is imported. -/
import Derived.Test.YtdpgdnbknmncfaaDoorLawsFramePuts
